/- A part of the proof: LvA, SameR, SameS, one behind another. -/
import Derived.Test.YtmiinmndbkdjbaaMAA
import Derived.Test.YtmiinmndbkdjbaaMAB
import Derived.Test.YtmiinmndbkdjbaaMAC
import Derived.Test.YtmiinmndbkdjbaaMAD
import Derived.Test.YtmiinmndbkdjbaaMAE
import Derived.Test.YtmiinmndbkdjbaaMAF
import Derived.Test.YtmiinmndbkdjbaaMAG
import Derived.Test.YtmiinmndbkdjbaaMAH
import Derived.Test.YtmiinmndbkdjbaaMAI
import Derived.Test.YtmiinmndbkdjbaaMAJ
import Derived.Test.YtmiinmndbkdjbaaMAK
import Derived.Test.YtmiinmndbkdjbaaMAL
import Derived.Test.YtmiinmndbkdjbaaMAM
import Derived.Test.YtmiinmndbkdjbaaMAN
import Derived.Test.YtmiinmndbkdjbaaMAO
import Derived.Test.YtmiinmndbkdjbaaMAQ
import Derived.Test.YtmiinmndbkdjbaaMAR
import Derived.Test.YtmiinmndbkdjbaaMAS
import Derived.Test.YtmiinmndbkdjbaaMAT
import Derived.Test.YtmiinmndbkdjbaaMAU
import Derived.Deep.QuietTactic
import Derived.StillTailTactics
/- What is built lies in no block of one nought. The contracts of law23.great and last. -/
namespace Go.Proofs.Ytmiinmndbkdjbaa
set_option linter.unusedVariables false
set_option linter.unusedSimpArgs false
open Go.RowKit
def nouT : Array Value := #[.int .i64 0, .string ⟨#[]⟩, .slice none 0 0, .slice none 0 0]
theorem offX {w : World} {g : Nat} {ty : TypeId} (hB : Mem.Blk w g ty nouT) : ∀ (r : Nat) (e : Ex), e.rk ≤ r → ∀ (cs : List Value), RepE w [] e cs → RepE w [g] e cs := by
  intro r
  induction r with
  | zero => intro e h; have := e.rk_pos; omega
  | succ r ih =>
    intro e hr cs hR
    obtain ⟨op, n, nm, args, a, len, cap, rfl, rfl, ho, hn, hs, hS⟩ := hR.inv
    refine RepE.mk' ho hn hs ?_
    have hf := hS.facts.1
    obtain ⟨vs, h1, h2, h3⟩ := hS
    refine ⟨vs, h1, fun i e cs he hc => ih e (by have := Ex.rk_lt (op := op) (n := n) (nm := nm) he; omega) cs (h2 i e cs he hc), h3.1, h3.2.1, h3.2.2.1, fun hp => ?_⟩
    obtain ⟨b, o, ha, hbl, -, hc⟩ := h3.2.2.2 hp
    refine ⟨b, o, ha, hbl, fun hm => ?_, hc⟩
    rw [List.mem_singleton] at hm
    subst hm
    have he0 : args[0]? = some (args[0]'(by omega)) := List.getElem?_eq_getElem (by omega)
    have hv0 : vs[0]? = some (vs[0]'(by omega)) := List.getElem?_eq_getElem (by omega)
    obtain ⟨op', n', nm', args', a', len', cap', e1, e2, -⟩ := (h2 0 _ _ he0 hv0).inv
    rw [e2] at hv0
    have k1 := (hc 0 _ hv0).2 1 _ rfl
    have k3 := (hc 0 _ hv0).2 3 _ rfl
    rw [hB.cell] at k1 k3
    have hlt : o + 0 * 4 + 3 < 4 := (Array.getElem?_eq_some_iff.1 k3).1
    obtain rfl : o = 0 := by omega
    have k1' : some (Value.string ⟨#[]⟩) = some (Value.int .i64 n') := k1
    cases k1'
theorem offSX {w : World} {g : Nat} {ty : TypeId} (hB : Mem.Blk w g ty nouT) {l : List Ex} {a : Option Addr} {len cap : Nat} (hS : SlE w [] l a len cap) : SlE w [g] l a len cap := by
  have h := offX hB (Ex.mk 0 0 ⟨#[]⟩ l).rk (Ex.mk 0 0 ⟨#[]⟩ l) (Nat.le_refl _) _ (RepE.mk' (by unfold I64; omega) (by unfold I64; omega) (by decide) hS)
  obtain ⟨op, n, nm, args, a', len', cap', e1, e2, -, -, -, h4⟩ := h.inv
  injection e1 with _ _ _ e1
  injection e2 with _ e2
  injection e2 with _ e2
  injection e2 with _ e2
  injection e2 with e2 _
  injection e2 with f1 f2 f3
  subst e1; subst f1; subst f2; subst f3
  exact h4
theorem offT {w : World} {g : Nat} {ty : TypeId} (hB : Mem.Blk w g ty nouT) : ∀ (r : Nat) (e : Te), e.rk ≤ r → bT e = true → ∀ (cs : List Value), RepT w [] e cs → RepT w [g] e cs := by
  intro r
  induction r with
  | zero => intro e h; have := e.rk_pos; omega
  | succ r ih =>
    intro e hr hb cs hR
    obtain ⟨op, nm, exprs, terms, a, len, cap, a', len', cap', rfl, rfl, ho, hs, hX, hS⟩ := hR.inv
    obtain ⟨-, -, -, -, g3⟩ := bT_inv hb
    refine RepT.mk' ho hs (offSX hB hX) ?_
    have hf := hS.facts.1
    obtain ⟨vs, h1, h2, h3⟩ := hS
    refine ⟨vs, h1, fun i e cs he hc => ih e (by have := Te.rk_lt (op := op) (nm := nm) (x := exprs) he; omega) (g3 e (List.mem_of_getElem? he)) cs (h2 i e cs he hc), h3.1, h3.2.1, h3.2.2.1, fun hp => ?_⟩
    obtain ⟨b, o, ha, hbl, -, hc⟩ := h3.2.2.2 hp
    refine ⟨b, o, ha, hbl, fun hm => ?_, hc⟩
    rw [List.mem_singleton] at hm
    subst hm
    have he0 : terms[0]? = some (terms[0]'(by omega)) := List.getElem?_eq_getElem (by omega)
    have hv0 : vs[0]? = some (vs[0]'(by omega)) := List.getElem?_eq_getElem (by omega)
    have hb0 := g3 _ (List.mem_of_getElem? he0)
    have hk0 := (te_kids hb0).2.2.2.1
    obtain ⟨op', nm', ex', te', a2, len2, cap2, a3, len3, cap3, e1, e2, -⟩ := (h2 0 _ _ he0 hv0).inv
    rw [e2] at hv0
    rw [e1] at hk0
    have k0 := (hc 0 _ hv0).2 0 _ rfl
    have k3 := (hc 0 _ hv0).2 3 _ rfl
    rw [hB.cell] at k0 k3
    have hlt : o + 0 * 4 + 3 < 4 := (Array.getElem?_eq_some_iff.1 k3).1
    obtain rfl : o = 0 := by omega
    have k0' : some (Value.int .i64 0) = some (Value.int .i64 op') := k0
    injection k0' with k0'; injection k0' with _ k0'
    have : (1 : Int) ≤ op' := hk0
    omega
set_option maxRecDepth 100000 in
set_option maxHeartbeats 2000000 in
theorem great23_any (day : Int) (a a' a2 : Option Addr) (len cap len' cap' len2 cap2 : Nat) (w : World) : Calls Try.prog 5 #[.slice a len cap, .slice a' len' cap', .agg #[.int .i64 day, .slice a2 len2 cap2]] w fun e w' => e = .returned (.bool (decide (60 < len ∨ 60 < len' ∨ 60 < len2))) ∧ Below w.heap.size w w' := by
  have HB := Lib.hid ((Below.refl w.heap.size w).alloc (Nat.le_refl _) (.cells #[.int .i64 day, .slice a2 len2 cap2] 26))
  have BX := Lib.hid (Mem.Blk.new w 26 #[.int .i64 day, .slice a2 len2 cap2])
  by_cases h : 60 < len
  · have e : decide (60 < len ∨ 60 < len' ∨ 60 < len2) = true := decide_eq_true (.inl h)
    rw [e]
    have h' : (60 : Int) < (len : Int) := by omega
    clear e
    go_enter Try.func5, Try.ntmps5
    go_upto_region 1 with (fail)
    generalize w.alloc (.cells #[.int .i64 day, .slice a2 len2 cap2] 26) = v at *
    obtain ⟨x0, x1, -, -⟩ := BX.out.two
    go_wp2_with fail
    go_ret
    exact ⟨rfl, HB.out⟩
  · have h' : ¬ (60 : Int) < (len : Int) := by omega
    by_cases h3 : 60 < len'
    · have e : decide (60 < len ∨ 60 < len' ∨ 60 < len2) = true := decide_eq_true (.inr (.inl h3))
      rw [e]
      have h3' : (60 : Int) < (len' : Int) := by omega
      clear e
      go_enter Try.func5, Try.ntmps5
      go_upto_region 1 with (fail)
      generalize w.alloc (.cells #[.int .i64 day, .slice a2 len2 cap2] 26) = v at *
      obtain ⟨x0, x1, -, -⟩ := BX.out.two
      go_wp2_with fail
      go_ret
      exact ⟨rfl, HB.out⟩
    · have h3' : ¬ (60 : Int) < (len' : Int) := by omega
      by_cases h2 : 60 < len2
      · have e : decide (60 < len ∨ 60 < len' ∨ 60 < len2) = true := decide_eq_true (.inr (.inr h2))
        rw [e]
        have h2' : (60 : Int) < (len2 : Int) := by omega
        clear e
        go_enter Try.func5, Try.ntmps5
        go_upto_region 1 with (fail)
        generalize w.alloc (.cells #[.int .i64 day, .slice a2 len2 cap2] 26) = v at *
        obtain ⟨x0, x1, -, -⟩ := BX.out.two
        go_wp2_with fail
        go_ret
        exact ⟨rfl, HB.out⟩
      · have e : decide (60 < len ∨ 60 < len' ∨ 60 < len2) = false := decide_eq_false (by omega)
        rw [e]
        have h2' : ¬ (60 : Int) < (len2 : Int) := by omega
        clear e
        go_enter Try.func5, Try.ntmps5
        go_upto_region 1 with (fail)
        generalize w.alloc (.cells #[.int .i64 day, .slice a2 len2 cap2] 26) = v at *
        obtain ⟨x0, x1, -, -⟩ := BX.out.two
        go_wp2_with fail
        go_ret
        exact ⟨rfl, HB.out⟩
/-- The last term, if it is right and fits. -/
def LstT (w : World) (x : Ending) : Prop := (∃ (o : Int) (nm : ByteArray) (xa : Option Addr) (xl xc : Nat) (ta : Option Addr) (tl tc : Nat), x = .returned (.tuple #[.agg #[.int .i64 o, .string nm, .slice xa xl xc, .slice ta tl tc], .bool false])) ∨
  (∃ t cs, x = .returned (.tuple #[.agg cs.toArray, .bool true]) ∧ RepT w [] t cs ∧ rT t = true ∧ fitT t = true)
set_option maxRecDepth 100000 in
set_option maxHeartbeats 4000000 in
theorem last23_any (lfs : List Lf) (kns : List Kn) (a a' : Option Addr) (len cap len' cap' : Nat) (w : World) (h1 : SlR lfK w [] lfs a len cap) (h2 : SlR knK w [] kns a' len' cap') :
    Calls Try.prog 7 #[.slice a len cap, .slice a' len' cap'] w fun x w' => LstT w' x ∧ Below w.heap.size w w' := by
  have hal := below_nT w (.cells nouT 32)
  have HB0 := Lib.hid hal
  have BR := Lib.hid (Mem.Blk.new w 32 nouT)
  have HBU := Lib.hid (build_any lfs kns a a' len cap len' cap' _ (h1.kept (Kept.of_below hal [])) (h2.kept (Kept.of_below hal [])))
  clear h1 h2 hal
  unfold nouT at HB0 BR HBU
  go_enter Try.func7, Try.ntmps7
  go_upto_region 1 with (fail)
  generalize w.alloc (.cells #[.int .i64 0, .string ⟨#[]⟩, .slice none 0 0, .slice none 0 0] 32) = v0 at *
  go_wp2_with fail
  go_at_call 16
  (with_reducible refine HBU.out.mono ?_)
  rintro e w1 ⟨⟨es, ts, cs, rfl, hT, -, hle, -, hrk⟩, b1⟩
  have HLA := Lib.hid (last_any hT (fun t ht => by have := hrk t ht; omega) (by omega))
  have HB1 := Lib.hid (HB0.out.trans (b1.mono HB0.out.size))
  have BR1 := Lib.hid (BR.out.below b1)
  clear hT hle hrk b1 HBU HB0 BR
  go_wp2_with fail
  go_at_call 17
  (with_reducible refine HLA.out.mono ?_)
  rintro e w2 ⟨hd, b2⟩
  have HB2 := Lib.hid (HB1.out.trans (b2.mono HB1.out.size))
  have BR2 := Lib.hid (BR1.out.below b2)
  clear HB1 b2 HLA BR1
  rcases hd with ⟨rfl, -⟩ | ⟨cs', t, rfl, hl, hR⟩
  · have HRT : Hid (RepT w2 [] (.mk 0 ⟨#[]⟩ [] []) [.int .i64 0, .string ⟨#[]⟩, .slice none 0 0, .slice none 0 0]) := RepT.mk' (by unfold I64; omega) (by decide) (SlE.nil _ _) (SlT.nil _ _)
    have HOF : Hid (∀ W, Below w2.heap.size w2 W → RepT W [w.heap.size] (.mk 0 ⟨#[]⟩ [] []) [.int .i64 0, .string ⟨#[]⟩, .slice none 0 0, .slice none 0 0]) := fun W _ => RepT.mk' (by unfold I64; omega) (by decide) (SlE.nil _ _) (SlT.nil _ _)
    have bn := below_nT w2 (.cells #[(.int .i64 0), (.string ⟨#[]⟩), (.slice none 0 0), (.slice none 0 0)] 32)
    have BX := Lib.hid (Mem.Blk.new w2 32 #[(.int .i64 0), (.string ⟨#[]⟩), (.slice none 0 0), (.slice none 0 0)])
    have HW3 := Lib.hid bn
    have HWZ := Lib.hid bn.size
    clear bn
    go_upto_region 2 with (fail)
    generalize w2.alloc (.cells #[(.int .i64 0), (.string ⟨#[]⟩), (.slice none 0 0), (.slice none 0 0)] 32) = w3 at *
    obtain ⟨g6, hg6⟩ : ∃ g, g = w2.heap.size := ⟨_, rfl⟩
    rw [← hg6] at BX
    rw [show Value.pointer (some ⟨w2.heap.size, 0, none⟩) = .pointer (some ⟨g6, 0, none⟩) by rw [hg6]]
    have HGN : Hid (g6 ≠ w.heap.size) := by have := BR2.out.lt; show _ ≠ _; omega
    clear hg6
    obtain ⟨x0, x1, x2, x3, -, -, -, -⟩ := blk4 BX.out
    refine wp_region_till (S := fun W => W.cell? ⟨g6, 0, none⟩ = some (.int .i64 0) ∧ W.cell? ⟨g6, 1, none⟩ = some (.string ⟨#[]⟩) ∧ W.cell? ⟨g6, 2, none⟩ = some (.slice none 0 0) ∧ W.cell? ⟨g6, 3, none⟩ = some (.slice none 0 0)) 7 (by kernel_rfl) ?_
    refine till_take (i := 0) (v := ?_) rfl (by kernel_rfl) (fun _ _ _ h => h) (Or.inl ⟨by rfl, ?_⟩) ⟨x0,x1,x2,x3⟩ ?_
    rotate_left
    · intro W hS
      try dsimp only at hS
      go_split_ands
      go_simp
      try with_reducible rfl
    try simp only [Act.put, List.getElem_toArray, List.getElem_cons_zero, List.getElem_cons_succ, List.setIfInBounds_toArray, List.set_cons_zero, List.set_cons_succ]
    refine till_take (i := 1) (v := ?_) rfl (by kernel_rfl) (fun _ _ _ h => h) (Or.inl ⟨by rfl, ?_⟩) ⟨x0,x1,x2,x3⟩ ?_
    rotate_left
    · intro W hS
      try dsimp only at hS
      go_split_ands
      go_simp
      try with_reducible rfl
    try simp only [Act.put, List.getElem_toArray, List.getElem_cons_zero, List.getElem_cons_succ, List.setIfInBounds_toArray, List.set_cons_zero, List.set_cons_succ]
    refine till_take (i := 2) (v := ?_) rfl (by kernel_rfl) (fun _ _ _ h => h) (Or.inl ⟨by rfl, ?_⟩) ⟨x0,x1,x2,x3⟩ ?_
    rotate_left
    · intro W hS
      try dsimp only at hS
      go_split_ands
      go_simp
      try with_reducible rfl
    try simp only [Act.put, List.getElem_toArray, List.getElem_cons_zero, List.getElem_cons_succ, List.setIfInBounds_toArray, List.set_cons_zero, List.set_cons_succ]
    refine till_take (i := 3) (v := undef) rfl (by kernel_rfl) (fun _ _ _ h => h) (Or.inr ⟨by rfl, rfl⟩) ⟨x0,x1,x2,x3⟩ ?_
    try simp only [Act.put, List.getElem_toArray, List.getElem_cons_zero, List.getElem_cons_succ, List.setIfInBounds_toArray, List.set_cons_zero, List.set_cons_succ]
    refine till_take (i := 4) (v := undef) rfl (by kernel_rfl) (fun _ _ _ h => h) (Or.inr ⟨by rfl, rfl⟩) ⟨x0,x1,x2,x3⟩ ?_
    try simp only [Act.put, List.getElem_toArray, List.getElem_cons_zero, List.getElem_cons_succ, List.setIfInBounds_toArray, List.set_cons_zero, List.set_cons_succ]
    have hW9 : Below w2.heap.size w2 w3 := HW3.out.trans (((Below.refl w3.heap.size w3)).mono HWZ.out)
    have HBW := Lib.hid (HB2.out.trans (hW9.mono HB2.out.size))
    have hBR := BR2.out.below hW9
    obtain ⟨t0, t1, t2, t3, t4, t5, t6, t7⟩ := blk4 hBR
    have HFN := Lib.hid (ret4T (X := []) (c0 := (.int .i64 0)) (c1 := (.string ⟨#[]⟩)) (c2 := (.slice none 0 0)) (c3 := (.slice none 0 0)) HBW.out (Nat.le_refl _) hBR (HOF.out w3 hW9))
    have hX9 := ((((BX.out.below (Below.refl w3.heap.size w3)).far (p := ⟨w.heap.size, 0, none⟩) HGN.out (.int .i64 0)).far (p := ⟨w.heap.size, 1, none⟩) HGN.out (.string ⟨#[]⟩)).far (p := ⟨w.heap.size, 2, none⟩) HGN.out (.slice none 0 0)).far (p := ⟨w.heap.size, 3, none⟩) HGN.out (.slice none 0 0)
    obtain ⟨x0', x1', x2', x3', -, -, -, -⟩ := blk4 hX9
    have HX9 := Lib.hid (And.intro x0' (And.intro x1' (And.intro x2' x3')))
    clear hW9 hBR hX9 x0' x1' x2' x3'
    refine till_take (i := 5) (v := ?_) rfl (by kernel_rfl) (fun _ _ _ h => h) (Or.inl ⟨by rfl, ?_⟩) ⟨x0,x1,x2,x3⟩ ?_
    rotate_left
    · intro W hS
      try dsimp only at hS
      go_split_ands
      go_simp
      try with_reducible rfl
    try simp only [Act.put, List.getElem_toArray, List.getElem_cons_zero, List.getElem_cons_succ, List.setIfInBounds_toArray, List.set_cons_zero, List.set_cons_succ]
    clear x0 x1 x2 x3
    refine till_one (i := 6) (by kernel_rfl) rfl (fun K' hK => ?_)
    go_simp
    refine hK _ _ HX9.out ?_
    clear hK K'
    try simp only [Act.put, List.getElem_toArray, List.getElem_cons_zero, List.getElem_cons_succ, List.setIfInBounds_toArray, List.set_cons_zero, List.set_cons_succ]
    refine till_last (by kernel_rfl) rfl (by kernel_rfl) (fun K' hK => ?_)
    go_simp
    refine hK _ _ ?_
    clear hK K'
    try simp only [Act.put, List.getElem_toArray, List.getElem_cons_zero, List.getElem_cons_succ, List.setIfInBounds_toArray, List.set_cons_zero, List.set_cons_succ]
    refine wpAny_done (by kernel_rfl) ?_ _
    go_wp2_with fail
    generalize (((w3.setCell ⟨w.heap.size, 0, none⟩ (.int .i64 0)).setCell ⟨w.heap.size, 1, none⟩ (.string ⟨#[]⟩)).setCell ⟨w.heap.size, 2, none⟩ (.slice none 0 0)).setCell ⟨w.heap.size, 3, none⟩ (.slice none 0 0) = W9 at *
    obtain ⟨r0, r1, r2, r3, -, -, -, -⟩ := blk4 HFN.out.2.2
    refine bodyPost_ret (v := .tuple #[.agg #[(.int .i64 0), (.string ⟨#[]⟩), (.slice none 0 0), (.slice none 0 0)], .bool false]) (by simp [results, Try.results7, go_sem, r0, r1, r2, r3]) rfl ⟨(.inl ⟨_, _, _, _, _, _, _, _, rfl⟩), HFN.out.2.1.drew⟩
  · have hrt := (lastT_right hl).1
    have HRI := Lib.hid hrt
    obtain ⟨hnd, hrk, hbt⟩ := rT_get hrt
    have HRT := Lib.hid hR
    have HOF := Lib.hid (fun W (hW : Below w2.heap.size w2 W) => offT (BR2.out.below hW) t.rk t (Nat.le_refl _) hbt _ (hR.kept (Kept.of_below hW [])))
    have HFT := Lib.hid (fun W (hW : Below w2.heap.size w2 W) => rfits_any t.rk t (Nat.le_refl _) hbt _ W (hR.kept (Kept.of_below hW [])))
    obtain ⟨q1, q2, q3, q4, p5, l5, r5, p6, l6, r6, -, rfl, -, -, -, -⟩ := hR.inv
    obtain ⟨ft, hft⟩ : ∃ b, b = fitT t := ⟨_, rfl⟩
    have HFE := Lib.hid hft
    rw [← hft] at HFT
    clear hft hR hl hrt hnd hrk hbt
    have bn := below_nT w2 (.cells #[(.int .i64 q1), (.string q2), (.slice p5 l5 r5), (.slice p6 l6 r6)] 32)
    have BX := Lib.hid (Mem.Blk.new w2 32 #[(.int .i64 q1), (.string q2), (.slice p5 l5 r5), (.slice p6 l6 r6)])
    have HW3 := Lib.hid bn
    have HWZ := Lib.hid bn.size
    clear bn
    go_upto_region 2 with (fail)
    generalize w2.alloc (.cells #[(.int .i64 q1), (.string q2), (.slice p5 l5 r5), (.slice p6 l6 r6)] 32) = w3 at *
    obtain ⟨g6, hg6⟩ : ∃ g, g = w2.heap.size := ⟨_, rfl⟩
    rw [← hg6] at BX
    rw [show Value.pointer (some ⟨w2.heap.size, 0, none⟩) = .pointer (some ⟨g6, 0, none⟩) by rw [hg6]]
    have HGN : Hid (g6 ≠ w.heap.size) := by have := BR2.out.lt; show _ ≠ _; omega
    clear hg6
    obtain ⟨x0, x1, x2, x3, -, -, -, -⟩ := blk4 BX.out
    refine wp_region_till (S := fun W => W.cell? ⟨g6, 0, none⟩ = some (.int .i64 q1) ∧ W.cell? ⟨g6, 1, none⟩ = some (.string q2) ∧ W.cell? ⟨g6, 2, none⟩ = some (.slice p5 l5 r5) ∧ W.cell? ⟨g6, 3, none⟩ = some (.slice p6 l6 r6)) 7 (by kernel_rfl) ?_
    refine till_take (i := 0) (v := ?_) rfl (by kernel_rfl) (fun _ _ _ h => h) (Or.inl ⟨by rfl, ?_⟩) ⟨x0,x1,x2,x3⟩ ?_
    rotate_left
    · intro W hS
      try dsimp only at hS
      go_split_ands
      go_simp
      try with_reducible rfl
    try simp only [Act.put, List.getElem_toArray, List.getElem_cons_zero, List.getElem_cons_succ, List.setIfInBounds_toArray, List.set_cons_zero, List.set_cons_succ]
    refine till_take (i := 1) (v := ?_) rfl (by kernel_rfl) (fun _ _ _ h => h) (Or.inl ⟨by rfl, ?_⟩) ⟨x0,x1,x2,x3⟩ ?_
    rotate_left
    · intro W hS
      try dsimp only at hS
      go_split_ands
      go_simp
      try with_reducible rfl
    try simp only [Act.put, List.getElem_toArray, List.getElem_cons_zero, List.getElem_cons_succ, List.setIfInBounds_toArray, List.set_cons_zero, List.set_cons_succ]
    refine till_take (i := 2) (v := ?_) rfl (by kernel_rfl) (fun _ _ _ h => h) (Or.inl ⟨by rfl, ?_⟩) ⟨x0,x1,x2,x3⟩ ?_
    rotate_left
    · intro W hS
      try dsimp only at hS
      go_split_ands
      go_simp
      try with_reducible rfl
    try simp only [Act.put, List.getElem_toArray, List.getElem_cons_zero, List.getElem_cons_succ, List.setIfInBounds_toArray, List.set_cons_zero, List.set_cons_succ]
    refine till_take (i := 3) (v := ?_) rfl (by kernel_rfl) (fun _ _ _ h => h) (Or.inl ⟨by rfl, ?_⟩) ⟨x0,x1,x2,x3⟩ ?_
    rotate_left
    · intro W hS
      try dsimp only at hS
      go_split_ands
      go_simp
      try with_reducible rfl
    try simp only [Act.put, List.getElem_toArray, List.getElem_cons_zero, List.getElem_cons_succ, List.setIfInBounds_toArray, List.set_cons_zero, List.set_cons_succ]
    refine till_one (i := 4) (by kernel_rfl) rfl (fun K' hK => ?_)
    go_simp
    have b0 : Below w3.heap.size w3 w3.drew := (Below.refl w3.heap.size w3).drew
    (with_reducible refine (HFT.out _ (HW3.out.trans (b0.mono HWZ.out))).mono ?_)
    rintro y w4 ⟨rfl, b4⟩
    have HW4 := Lib.hid (b0.trans (b4.mono b0.size))
    replace x0 := cell_up x0 HW4.out
    replace x1 := cell_up x1 HW4.out
    replace x2 := cell_up x2 HW4.out
    replace x3 := cell_up x3 HW4.out
    refine hK _ _ ⟨x0, x1, x2, x3⟩ ?_
    clear hK K' b0 b4
    try simp only [Act.put, List.getElem_toArray, List.getElem_cons_zero, List.getElem_cons_succ, List.setIfInBounds_toArray, List.set_cons_zero, List.set_cons_succ]
    cases ft with
    | true =>
      have hW9 : Below w2.heap.size w2 w4 := HW3.out.trans ((HW4.out).mono HWZ.out)
      have HBW := Lib.hid (HB2.out.trans (hW9.mono HB2.out.size))
      have hBR := BR2.out.below hW9
      obtain ⟨t0, t1, t2, t3, t4, t5, t6, t7⟩ := blk4 hBR
      have HFN := Lib.hid (ret4T (X := []) (c0 := (.int .i64 q1)) (c1 := (.string q2)) (c2 := (.slice p5 l5 r5)) (c3 := (.slice p6 l6 r6)) HBW.out (Nat.le_refl _) hBR (HOF.out w4 hW9))
      have hX9 := ((((BX.out.below HW4.out).far (p := ⟨w.heap.size, 0, none⟩) HGN.out (.int .i64 q1)).far (p := ⟨w.heap.size, 1, none⟩) HGN.out (.string q2)).far (p := ⟨w.heap.size, 2, none⟩) HGN.out (.slice p5 l5 r5)).far (p := ⟨w.heap.size, 3, none⟩) HGN.out (.slice p6 l6 r6)
      obtain ⟨x0', x1', x2', x3', -, -, -, -⟩ := blk4 hX9
      have HX9 := Lib.hid (And.intro x0' (And.intro x1' (And.intro x2' x3')))
      clear hW9 hBR hX9 x0' x1' x2' x3'
      refine till_take (i := 5) (v := ?_) rfl (by kernel_rfl) (fun _ _ _ h => h) (Or.inl ⟨by rfl, ?_⟩) ⟨x0,x1,x2,x3⟩ ?_
      rotate_left
      · intro W hS
        try dsimp only at hS
        go_split_ands
        go_simp
        try with_reducible rfl
      try simp only [Act.put, List.getElem_toArray, List.getElem_cons_zero, List.getElem_cons_succ, List.setIfInBounds_toArray, List.set_cons_zero, List.set_cons_succ]
      clear x0 x1 x2 x3
      refine till_one (i := 6) (by kernel_rfl) rfl (fun K' hK => ?_)
      go_simp
      refine hK _ _ HX9.out ?_
      clear hK K'
      try simp only [Act.put, List.getElem_toArray, List.getElem_cons_zero, List.getElem_cons_succ, List.setIfInBounds_toArray, List.set_cons_zero, List.set_cons_succ]
      refine till_last (by kernel_rfl) rfl (by kernel_rfl) (fun K' hK => ?_)
      go_simp
      refine hK _ _ ?_
      clear hK K'
      try simp only [Act.put, List.getElem_toArray, List.getElem_cons_zero, List.getElem_cons_succ, List.setIfInBounds_toArray, List.set_cons_zero, List.set_cons_succ]
      refine wpAny_done (by kernel_rfl) ?_ _
      go_wp2_with fail
      generalize (((w4.setCell ⟨w.heap.size, 0, none⟩ (.int .i64 q1)).setCell ⟨w.heap.size, 1, none⟩ (.string q2)).setCell ⟨w.heap.size, 2, none⟩ (.slice p5 l5 r5)).setCell ⟨w.heap.size, 3, none⟩ (.slice p6 l6 r6) = W9 at *
      obtain ⟨r0, r1, r2, r3, -, -, -, -⟩ := blk4 HFN.out.2.2
      refine bodyPost_ret (v := .tuple #[.agg #[(.int .i64 q1), (.string q2), (.slice p5 l5 r5), (.slice p6 l6 r6)], .bool true]) (by simp [results, Try.results7, go_sem, r0, r1, r2, r3]) rfl ⟨(.inr ⟨t, _, rfl, HFN.out.1, HRI.out, HFE.out.symm⟩), HFN.out.2.1⟩
    | false =>
      have hW9 : Below w2.heap.size w2 w4 := HW3.out.trans ((HW4.out).mono HWZ.out)
      have HBW := Lib.hid (HB2.out.trans (hW9.mono HB2.out.size))
      have hBR := BR2.out.below hW9
      obtain ⟨t0, t1, t2, t3, t4, t5, t6, t7⟩ := blk4 hBR
      have HFN := Lib.hid (ret4T (X := []) (c0 := (.int .i64 q1)) (c1 := (.string q2)) (c2 := (.slice p5 l5 r5)) (c3 := (.slice p6 l6 r6)) HBW.out (Nat.le_refl _) hBR (HOF.out w4 hW9))
      have hX9 := ((((BX.out.below HW4.out).far (p := ⟨w.heap.size, 0, none⟩) HGN.out (.int .i64 q1)).far (p := ⟨w.heap.size, 1, none⟩) HGN.out (.string q2)).far (p := ⟨w.heap.size, 2, none⟩) HGN.out (.slice p5 l5 r5)).far (p := ⟨w.heap.size, 3, none⟩) HGN.out (.slice p6 l6 r6)
      obtain ⟨x0', x1', x2', x3', -, -, -, -⟩ := blk4 hX9
      have HX9 := Lib.hid (And.intro x0' (And.intro x1' (And.intro x2' x3')))
      clear hW9 hBR hX9 x0' x1' x2' x3'
      refine till_take (i := 5) (v := ?_) rfl (by kernel_rfl) (fun _ _ _ h => h) (Or.inl ⟨by rfl, ?_⟩) ⟨x0,x1,x2,x3⟩ ?_
      rotate_left
      · intro W hS
        try dsimp only at hS
        go_split_ands
        go_simp
        try with_reducible rfl
      try simp only [Act.put, List.getElem_toArray, List.getElem_cons_zero, List.getElem_cons_succ, List.setIfInBounds_toArray, List.set_cons_zero, List.set_cons_succ]
      clear x0 x1 x2 x3
      refine till_one (i := 6) (by kernel_rfl) rfl (fun K' hK => ?_)
      go_simp
      refine hK _ _ HX9.out ?_
      clear hK K'
      try simp only [Act.put, List.getElem_toArray, List.getElem_cons_zero, List.getElem_cons_succ, List.setIfInBounds_toArray, List.set_cons_zero, List.set_cons_succ]
      refine till_last (by kernel_rfl) rfl (by kernel_rfl) (fun K' hK => ?_)
      go_simp
      refine hK _ _ ?_
      clear hK K'
      try simp only [Act.put, List.getElem_toArray, List.getElem_cons_zero, List.getElem_cons_succ, List.setIfInBounds_toArray, List.set_cons_zero, List.set_cons_succ]
      refine wpAny_done (by kernel_rfl) ?_ _
      go_wp2_with fail
      generalize (((w4.setCell ⟨w.heap.size, 0, none⟩ (.int .i64 q1)).setCell ⟨w.heap.size, 1, none⟩ (.string q2)).setCell ⟨w.heap.size, 2, none⟩ (.slice p5 l5 r5)).setCell ⟨w.heap.size, 3, none⟩ (.slice p6 l6 r6) = W9 at *
      obtain ⟨r0, r1, r2, r3, -, -, -, -⟩ := blk4 HFN.out.2.2
      refine bodyPost_ret (v := .tuple #[.agg #[(.int .i64 q1), (.string q2), (.slice p5 l5 r5), (.slice p6 l6 r6)], .bool false]) (by simp [results, Try.results7, go_sem, r0, r1, r2, r3]) rfl ⟨(.inl ⟨_, _, _, _, _, _, _, _, rfl⟩), HFN.out.2.1⟩
end Go.Proofs.Ytmiinmndbkdjbaa

/- SameExpr of the document's answer. -/
namespace Go.Proofs.Ytmiinmndbkdjbaa
set_option linter.unusedVariables false
set_option linter.unusedSimpArgs false
open Go.RowKit
set_option maxRecDepth 100000 in
set_option maxHeartbeats 2000000 in
theorem rsameExpr_any : ∀ (r : Nat) (e : Ex), e.rk ≤ r → ∀ (e2 : Ex) (cs cs2 : List Value) (w : World), RepE w [] e cs → RepE w [] e2 cs2 →
    Calls Try.prog 55 #[.agg cs.toArray, .agg cs2.toArray] w fun x w' => x = .returned (.bool (eqv e e2)) ∧ Below w.heap.size w w' := by
  intro r
  induction r with
  | zero => intro e h; have : 1 ≤ e.rk := by cases e; simp only [Ex.rk]; omega
            omega
  | succ r ih =>
    intro e hr e2 cs cs2 w hR hR2
    obtain ⟨op, n, nm, args, a, len, cap, rfl, rfl, i1, i2, i3, hS⟩ := hR.inv
    obtain ⟨op2, n2, nm2, args2, a2, len2, cap2, rfl, rfl, i12, i22, i32, hS2⟩ := hR2.inv
    have HI : Hid (∀ (k : Nat) e1 e1' cs1 cs1' W, args[k]? = some e1 → RepE W [] e1 cs1 → RepE W [] e1' cs1' → Calls Try.prog 55 #[.agg cs1.toArray, .agg cs1'.toArray] W fun x w' => x = .returned (.bool (eqv e1 e1')) ∧ Below W.heap.size W w') := by
      intro k e1 e1' cs1 cs1' W hk hR1 hR1'
      exact ih e1 (by have := Ex.rk_lt (op := op) (n := n) (nm := nm) hk; omega) e1' cs1 cs1' W hR1 hR1'
    have HF : Hid (∀ x, eqv (Ex.mk op n nm args) (Ex.mk op2 n2 nm2 args2) = x → Ending.returned (.bool x) = .returned (.bool (eqv (Ex.mk op n nm args) (Ex.mk op2 n2 nm2 args2)))) := fun x h => by rw [h]
    have HE : Hid (op = op2 → n = n2 → nm = nm2 → eqv (Ex.mk op n nm args) (Ex.mk op2 n2 nm2 args2) = eqv args args2) := by
      intro h1 h2 h3; subst h1 h2 h3
      by_cases h : args = args2
      · rw [eqv_yes h, eqv_yes (by rw [h])]
      · rw [eqv_no h, eqv_no (fun hh => h (by injection hh))]
    have HS := Lib.hid hS
    have HS2 := Lib.hid hS2
    obtain ⟨f1, f2, f3⟩ := hS.facts
    obtain ⟨f4, f5, f6⟩ := hS2.facts
    have HL := Lib.hid f1
    have HL2 := Lib.hid f4
    have HW0 := Lib.hid (((Below.refl w.heap.size w).alloc (Nat.le_refl _) (.cells #[.int .i64 op, .int .i64 n, .string nm, .slice a len cap] 53)).alloc (by simp) (.cells #[.int .i64 op2, .int .i64 n2, .string nm2, .slice a2 len2 cap2] 53))
    clear ih hr hR hR2 hS hS2 i1 i2 i12 i22 f1 f4
    by_cases ho : op = op2
    case neg =>
      have F := Lib.hid (HF.out false (eqv_no (fun h => ho (by injection h))))
      have t1 : (op != op2) = true := by simp [ho]
      clear ho
      go_enter Try.func55, Try.ntmps55
      go_wp2
      go_ret
      exact ⟨F.out, HW0.out⟩
    by_cases hn : n = n2
    case neg =>
      have F := Lib.hid (HF.out false (eqv_no (fun h => hn (by injection h))))
      have t1 : (n != n2) = true := by simp [hn]
      subst ho
      clear hn
      go_enter Try.func55, Try.ntmps55
      go_wp2
      go_ret
      exact ⟨F.out, HW0.out⟩
    by_cases hm : nm = nm2
    case neg =>
      have F := Lib.hid (HF.out false (eqv_no (fun h => hm (by injection h))))
      have t1 : (nm.toList == nm2.toList) = false := tl_ne hm
      have t2 : (nm.toList != nm2.toList) = true := by rw [bne, t1]; rfl
      subst ho hn
      clear hm
      go_enter Try.func55, Try.ntmps55
      go_wp2
      go_ret
      exact ⟨F.out, HW0.out⟩
    have E := Lib.hid (HE.out ho hn hm)
    subst ho hn hm
    have F : Hid (∀ b, eqv args args2 = b → Ending.returned (.bool b) = .returned (.bool (eqv (Ex.mk op n nm args) (Ex.mk op n nm args2)))) := fun b hb => by rw [E.out, hb]
    clear HE HF E
    generalize eqv (Ex.mk op n nm args) (Ex.mk op n nm args2) = R at *
    by_cases hl : len = len2
    case neg =>
      have F := Lib.hid (F.out false (eqv_no (fun h => hl (by rw [← HL.out, ← HL2.out, h]))))
      have t1 : ((len : Int) != (len2 : Int)) = true := by rw [bne_iff_ne]; omega
      clear hl
      go_enter Try.func55, Try.ntmps55
      go_wp2
      go_ret
      exact ⟨F.out, HW0.out⟩
    subst hl
    have BX := Lib.hid ((Mem.Blk.new w 53 #[.int .i64 op, .int .i64 n, .string nm, .slice a len cap]).alloc (.cells #[.int .i64 op, .int .i64 n, .string nm, .slice a2 len cap2] 53))
    have BY := Lib.hid (Mem.Blk.new (w.alloc (.cells #[.int .i64 op, .int .i64 n, .string nm, .slice a len cap] 53)) 53 #[.int .i64 op, .int .i64 n, .string nm, .slice a2 len cap2])
    rw [show (w.alloc (.cells #[.int .i64 op, .int .i64 n, .string nm, .slice a len cap] 53)).heap.size = w.heap.size + 1 by simp] at BY
    go_enter Try.func55, Try.ntmps55
    go_wp2_with fail
    go_loopw [5] (fun i wr => ∃ k : Nat, i = .int .i64 (k : Nat) ∧ k ≤ len ∧ Hid (Below w.heap.size w wr) ∧ Hid (Mem.Blk wr w.heap.size 53 #[.int .i64 op, .int .i64 n, .string nm, .slice a len cap]) ∧ Hid (Mem.Blk wr (w.heap.size + 1) 53 #[.int .i64 op, .int .i64 n, .string nm, .slice a2 len cap2]) ∧ Hid (∀ (j : Nat) x, j < k → args[j]? = some x → args2[j]? = some x)) (fun i _ => len - (intOf i).toNat)
    case atStart => exact ⟨0, rfl, Nat.zero_le _, HW0.out, BX.out, BY.out, fun j y hj => absurd hj (Nat.not_lt_zero _)⟩
    case round =>
      clear BX BY HW0
      obtain ⟨k, rfl, hk, HW, HX, HY, HN⟩ := hrel
      have x3 : wr.cell? ⟨w.heap.size, 3, none⟩ = some (.slice a len cap) := HX.out.cell 3
      have y3 : wr.cell? ⟨w.heap.size + 1, 3, none⟩ = some (.slice a2 len cap2) := HY.out.cell 3
      by_cases hlt : k < len
      · obtain ⟨b, o, op', n', nm', args', a', len', cap', rfl, hb, hbx, hle, j1, j2, j3, hS', g0, g1, g2, g3⟩ := (HS.out.kept (Kept.of_below HW.out [])).at k hlt
        obtain ⟨b4, o4, op4, n4, nm4, args4, a4, len4, cap4, rfl, hb4, hbx4, hle4, j41, j42, j43, hS4, g40, g41, g42, g43⟩ := (HS2.out.kept (Kept.of_below HW.out [])).at k hlt
        have HC := Lib.hid (fun W hW => HI.out k _ (Ex.mk op4 n4 nm4 args4) _ [.int .i64 op4, .int .i64 n4, .string nm4, .slice a4 len4 cap4] W hle (RepE.mk' j1 j2 j3 (hS'.kept hW)) (RepE.mk' j41 j42 j43 (hS4.kept hW)))
        have HK : Hid (Kept [] wr wr.drew) := ⟨Nat.le_refl _, fun _ _ _ => rfl⟩
        have HWD := Lib.hid HW.out.drew
        have HXD := Lib.hid HX.out.drew
        have HYD := Lib.hid HY.out.drew
        have HLE := Lib.hid hle
        have HLE4 := Lib.hid hle4
        have hidx : (0 : Int) ≤ (k : Int) := by omega
        have hidx2 : (k : Int) < (len : Int) := by omega
        clear hle hle4 hS' hS4
        generalize Ex.mk op' n' nm' args' = e' at *
        generalize Ex.mk op4 n4 nm4 args4 = e4 at *
        by_cases hp : e' = e4
        · have HN2 : Hid (∀ (j : Nat) x, j < k + 1 → args[j]? = some x → args2[j]? = some x) := by
            intro j y hj hy
            rcases Nat.lt_or_ge j k with h | h
            · exact HN.out j y h hy
            · obtain rfl : j = k := by omega
              rw [HLE.out] at hy; injection hy with hy; subst hy; rw [HLE4.out, hp]
          rw [eqv_yes hp] at HC
          clear hp
          go_wp2_with fail
          go_still_tail 10, (by kernel_rfl)
          change wpList _ _ _ _ _ wr.drew
          go_wp2_with fail
          refine (HC.out _ HK.out).mono ?_; rintro r w1 ⟨rfl, b1⟩
          go_wp2
          go_roundw
          case rel => exact ⟨k + 1, by go_num, by omega, HWD.out.trans (b1.mono HWD.out.size), HXD.out.below b1, HYD.out.below b1, HN2⟩
          case measure => simp [intOf]; omega
        · have F := Lib.hid (F.out false (eqv_no (list_ne HLE.out HLE4.out hp)))
          rw [eqv_no hp] at HC
          clear hp
          go_wp2_with fail
          go_still_tail 10, (by kernel_rfl)
          change wpList _ _ _ _ _ wr.drew
          go_wp2_with fail
          refine (HC.out _ HK.out).mono ?_; rintro r w1 ⟨rfl, b1⟩
          go_wp2
          go_ret
          exact ⟨F.out, HWD.out.trans (b1.mono HWD.out.size)⟩
      · have F := Lib.hid (F.out true (eqv_yes (list_eq_of (by rw [HL.out, HL2.out]) (fun j x hj hx => HN.out j x (by rw [HL.out] at hj; omega) hx))))
        go_wp2
        go_ret
        exact ⟨F.out, HW.out⟩
end Go.Proofs.Ytmiinmndbkdjbaa

/- Same of the document's answer. -/
namespace Go.Proofs.Ytmiinmndbkdjbaa
set_option linter.unusedVariables false
set_option linter.unusedSimpArgs false
open Go.RowKit
set_option maxRecDepth 100000 in
set_option maxHeartbeats 4000000 in
theorem rsame_any : ∀ (r : Nat) (e : Te), e.rk ≤ r → ∀ (e2 : Te) (cs cs2 : List Value) (w : World), RepT w [] e cs → RepT w [] e2 cs2 →
    Calls Try.prog 32 #[.agg cs.toArray, .agg cs2.toArray] w fun x w' => x = .returned (.bool (eqv e e2)) ∧ Below w.heap.size w w' := by
  intro r
  induction r with
  | zero => intro e h; have := e.rk_pos'; omega
  | succ r ih =>
    intro e hr e2 cs cs2 w hR hR2
    obtain ⟨op, nm, ex, te, a, len, cap, b, ben, bap, rfl, rfl, i1, i3, hS, hB⟩ := hR.inv
    obtain ⟨op2, nm2, ex2, te2, a2, len2, cap2, b2, ben2, bap2, rfl, rfl, i12, i32, hS2, hB2⟩ := hR2.inv
    have HI : Hid (∀ (k : Nat) e1 e1' cs1 cs1' W, te[k]? = some e1 → RepT W [] e1 cs1 → RepT W [] e1' cs1' → Calls Try.prog 32 #[.agg cs1.toArray, .agg cs1'.toArray] W fun x w' => x = .returned (.bool (eqv e1 e1')) ∧ Below W.heap.size W w') := by
      intro k e1 e1' cs1 cs1' W hk hR1 hR1'
      exact ih e1 (by have := Te.rk_lt (op := op) (nm := nm) (x := ex) hk; omega) e1' cs1 cs1' W hR1 hR1'
    have HF : Hid (∀ x, eqv (Te.mk op nm ex te) (Te.mk op2 nm2 ex2 te2) = x → Ending.returned (.bool x) = .returned (.bool (eqv (Te.mk op nm ex te) (Te.mk op2 nm2 ex2 te2)))) := fun x h => by rw [h]
    have HS := Lib.hid hS
    have HS2 := Lib.hid hS2
    have HB := Lib.hid hB
    have HB2 := Lib.hid hB2
    obtain ⟨f1, f2, f3⟩ := hS.facts
    obtain ⟨f4, f5, f6⟩ := hS2.facts
    obtain ⟨f1', f2', f3'⟩ := hB.facts
    obtain ⟨f4', f5', f6'⟩ := hB2.facts
    have HL := Lib.hid f1
    have HL2 := Lib.hid f4
    have HM := Lib.hid f1'
    have HM2 := Lib.hid f4'
    have HW0 := Lib.hid (((Below.refl w.heap.size w).alloc (Nat.le_refl _) (.cells #[.int .i64 op, .string nm, .slice a len cap, .slice b ben bap] 32)).alloc (by simp) (.cells #[.int .i64 op2, .string nm2, .slice a2 len2 cap2, .slice b2 ben2 bap2] 32))
    have BX := Lib.hid ((Mem.Blk.new w 32 #[.int .i64 op, .string nm, .slice a len cap, .slice b ben bap]).alloc (.cells #[.int .i64 op2, .string nm2, .slice a2 len2 cap2, .slice b2 ben2 bap2] 32))
    have BY := Lib.hid (Mem.Blk.new (w.alloc (.cells #[.int .i64 op, .string nm, .slice a len cap, .slice b ben bap] 32)) 32 #[.int .i64 op2, .string nm2, .slice a2 len2 cap2, .slice b2 ben2 bap2])
    rw [show (w.alloc (.cells #[.int .i64 op, .string nm, .slice a len cap, .slice b ben bap] 32)).heap.size = w.heap.size + 1 by simp] at BY
    clear ih hr hR hR2 hS hS2 hB hB2 i1 i12 f1 f4 f1' f4'
    by_cases ho : op = op2
    case neg =>
      have F := Lib.hid (HF.out false (eqv_no (fun h => ho (by injection h))))
      have t1 : (op != op2) = true := by simp [ho]
      clear ho
      go_enter Try.func32, Try.ntmps32
      go_wp2
      go_ret
      exact ⟨F.out, HW0.out⟩
    by_cases hm : nm = nm2
    case neg =>
      have F := Lib.hid (HF.out false (eqv_no (fun h => hm (by injection h))))
      have t1 : (nm.toList == nm2.toList) = false := tl_ne hm
      have t2 : (nm.toList != nm2.toList) = true := by rw [bne, t1]; rfl
      subst ho
      clear hm
      go_enter Try.func32, Try.ntmps32
      go_wp2
      go_ret
      exact ⟨F.out, HW0.out⟩
    subst ho hm
    have F : Hid (∀ x, (eqv ex ex2 && eqv te te2) = x → Ending.returned (.bool x) = .returned (.bool (eqv (Te.mk op nm ex te) (Te.mk op nm ex2 te2)))) := fun x hx => by rw [eqT, hx]
    clear HF
    generalize eqv (Te.mk op nm ex te) (Te.mk op nm ex2 te2) = R at *
    by_cases hl : len = len2
    case neg =>
      have F := Lib.hid (F.out false (by rw [eqv_no (fun h => hl (by rw [← HL.out, ← HL2.out, h]))]; rfl))
      have t1 : ((len : Int) != (len2 : Int)) = true := by rw [bne_iff_ne]; omega
      clear hl
      go_enter Try.func32, Try.ntmps32
      go_wp2
      go_ret
      exact ⟨F.out, HW0.out⟩
    by_cases hl2 : ben = ben2
    case neg =>
      have F := Lib.hid (F.out false (by rw [eqv_no (a := te) (fun h => hl2 (by rw [← HM.out, ← HM2.out, h]))]; simp))
      have t1 : ((ben : Int) != (ben2 : Int)) = true := by rw [bne_iff_ne]; omega
      subst hl
      clear hl2
      go_enter Try.func32, Try.ntmps32
      go_wp2
      go_ret
      exact ⟨F.out, HW0.out⟩
    subst hl hl2
    go_enter Try.func32, Try.ntmps32
    go_wp2_with fail
    go_loopw [5] (fun i wr => ∃ k : Nat, i = .int .i64 (k : Nat) ∧ k ≤ len ∧ Hid (Below w.heap.size w wr) ∧ Hid (Mem.Blk wr w.heap.size 32 #[.int .i64 op, .string nm, .slice a len cap, .slice b ben bap]) ∧ Hid (Mem.Blk wr (w.heap.size + 1) 32 #[.int .i64 op, .string nm, .slice a2 len cap2, .slice b2 ben bap2]) ∧ Hid (∀ (j : Nat) x, j < k → ex[j]? = some x → ex2[j]? = some x)) (fun i _ => len - (intOf i).toNat)
    case atStart => exact ⟨0, rfl, Nat.zero_le _, HW0.out, BX.out, BY.out, fun j y hj => absurd hj (Nat.not_lt_zero _)⟩
    case round =>
      clear BX BY HW0
      obtain ⟨k, rfl, hk, HW, HX, HY, HN⟩ := hrel
      have x2 : wr.cell? ⟨w.heap.size, 2, none⟩ = some (.slice a len cap) := HX.out.cell 2
      have y2 : wr.cell? ⟨w.heap.size + 1, 2, none⟩ = some (.slice a2 len cap2) := HY.out.cell 2
      by_cases hlt : k < len
      · obtain ⟨bb, o, op', n', nm', args', a', len', cap', rfl, hb, hbx, hle, j1, j2, j3, hS', g0, g1, g2, g3⟩ := (HS.out.kept (Kept.of_below HW.out [])).at k hlt
        obtain ⟨b4, o4, op4, n4, nm4, args4, a4, len4, cap4, rfl, hb4, hbx4, hle4, j41, j42, j43, hS4, g40, g41, g42, g43⟩ := (HS2.out.kept (Kept.of_below HW.out [])).at k hlt
        have HC := Lib.hid (fun W hW => rsameExpr_any (Ex.mk op' n' nm' args').rk (Ex.mk op' n' nm' args') (Nat.le_refl _) (Ex.mk op4 n4 nm4 args4) _ [.int .i64 op4, .int .i64 n4, .string nm4, .slice a4 len4 cap4] W (RepE.mk' j1 j2 j3 (hS'.kept hW)) (RepE.mk' j41 j42 j43 (hS4.kept hW)))
        have HK : Hid (Kept [] wr wr.drew) := ⟨Nat.le_refl _, fun _ _ _ => rfl⟩
        have HWD := Lib.hid HW.out.drew
        have HXD := Lib.hid HX.out.drew
        have HYD := Lib.hid HY.out.drew
        have HLE := Lib.hid hle
        have HLE4 := Lib.hid hle4
        have hidx : (0 : Int) ≤ (k : Int) := by omega
        have hidx2 : (k : Int) < (len : Int) := by omega
        clear hle hle4 hS' hS4
        generalize Ex.mk op' n' nm' args' = e' at *
        generalize Ex.mk op4 n4 nm4 args4 = e4 at *
        by_cases hp : e' = e4
        · have HN2 : Hid (∀ (j : Nat) x, j < k + 1 → ex[j]? = some x → ex2[j]? = some x) := by
            intro j y hj hy
            rcases Nat.lt_or_ge j k with h | h
            · exact HN.out j y h hy
            · obtain rfl : j = k := by omega
              rw [HLE.out] at hy; injection hy with hy; subst hy; rw [HLE4.out, hp]
          rw [eqv_yes hp] at HC
          clear hp
          go_wp2_with fail
          go_still_tail 10, (by kernel_rfl)
          change wpList _ _ _ _ _ wr.drew
          go_wp2_with fail
          refine (HC.out _ HK.out).mono ?_; rintro r w1 ⟨rfl, b1⟩
          go_wp2
          go_roundw
          case rel => exact ⟨k + 1, by go_num, by omega, HWD.out.trans (b1.mono HWD.out.size), HXD.out.below b1, HYD.out.below b1, HN2⟩
          case measure => simp [intOf]; omega
        · have F := Lib.hid (F.out false (by rw [eqv_no (list_ne HLE.out HLE4.out hp)]; rfl))
          rw [eqv_no hp] at HC
          clear hp
          go_wp2_with fail
          go_still_tail 10, (by kernel_rfl)
          change wpList _ _ _ _ _ wr.drew
          go_wp2_with fail
          refine (HC.out _ HK.out).mono ?_; rintro r w1 ⟨rfl, b1⟩
          go_wp2
          go_ret
          exact ⟨F.out, HWD.out.trans (b1.mono HWD.out.size)⟩
      · have F3 : Hid (∀ x, eqv te te2 = x → Ending.returned (.bool x) = .returned (.bool R)) := fun x hx => F.out x (by rw [eqv_yes (list_eq_of (by rw [HL.out, HL2.out]) (fun j x hj hx => HN.out j x (by rw [HL.out] at hj; omega) hx)), hx]; rfl)
        have W2 := HW
        have X2 := HX
        have Y2 := HY
        clear HW HX HY HN F HS HS2 HL HL2
        go_wp2_with fail
        clear x2 y2
        go_loopw [6] (fun i wr => ∃ k : Nat, i = .int .i64 (k : Nat) ∧ k ≤ ben ∧ Hid (Below w.heap.size w wr) ∧ Hid (Mem.Blk wr w.heap.size 32 #[.int .i64 op, .string nm, .slice a len cap, .slice b ben bap]) ∧ Hid (Mem.Blk wr (w.heap.size + 1) 32 #[.int .i64 op, .string nm, .slice a2 len cap2, .slice b2 ben bap2]) ∧ Hid (∀ (j : Nat) x, j < k → te[j]? = some x → te2[j]? = some x)) (fun i _ => ben - (intOf i).toNat)
        case atStart => exact ⟨0, rfl, Nat.zero_le _, W2.out, X2.out, Y2.out, fun j y hj => absurd hj (Nat.not_lt_zero _)⟩
        case round =>
          clear X2 Y2 W2
          obtain ⟨k2, rfl, hk2, HW, HX, HY, HN⟩ := hrel
          have x3 : wr.cell? ⟨w.heap.size, 3, none⟩ = some (.slice b ben bap) := HX.out.cell 3
          have y3 : wr.cell? ⟨w.heap.size + 1, 3, none⟩ = some (.slice b2 ben bap2) := HY.out.cell 3
          by_cases hlt2 : k2 < ben
          · obtain ⟨bb, o, op', nm', ex', te', a', len', cap', a3, len3, cap3, rfl, hb, hbx, hle, j1, j3, hS', hS3, g0, g1, g2, g3⟩ := (HB.out.kept (Kept.of_below HW.out [])).at k2 hlt2
            obtain ⟨b4, o4, op4, nm4, ex4, te4, a4, len4, cap4, a5, len5, cap5, rfl, hb4, hbx4, hle4, j41, j43, hS4, hS5, g40, g41, g42, g43⟩ := (HB2.out.kept (Kept.of_below HW.out [])).at k2 hlt2
            have HC := Lib.hid (fun W hW => HI.out k2 _ (Te.mk op4 nm4 ex4 te4) _ [.int .i64 op4, .string nm4, .slice a4 len4 cap4, .slice a5 len5 cap5] W hle (RepT.mk' j1 j3 (hS'.kept hW) (hS3.kept hW)) (RepT.mk' j41 j43 (hS4.kept hW) (hS5.kept hW)))
            have HK : Hid (Kept [] wr wr.drew) := ⟨Nat.le_refl _, fun _ _ _ => rfl⟩
            have HWD := Lib.hid HW.out.drew
            have HXD := Lib.hid HX.out.drew
            have HYD := Lib.hid HY.out.drew
            have HLE := Lib.hid hle
            have HLE4 := Lib.hid hle4
            have hidx : (0 : Int) ≤ (k2 : Int) := by omega
            have hidx2 : (k2 : Int) < (ben : Int) := by omega
            clear hle hle4 hS' hS4 hS3 hS5
            generalize Te.mk op' nm' ex' te' = e' at *
            generalize Te.mk op4 nm4 ex4 te4 = e4 at *
            by_cases hp : e' = e4
            · have HN2 : Hid (∀ (j : Nat) x, j < k2 + 1 → te[j]? = some x → te2[j]? = some x) := by
                intro j y hj hy
                rcases Nat.lt_or_ge j k2 with h | h
                · exact HN.out j y h hy
                · obtain rfl : j = k2 := by omega
                  rw [HLE.out] at hy; injection hy with hy; subst hy; rw [HLE4.out, hp]
              rw [eqv_yes hp] at HC
              clear hp
              go_wp2_with fail
              go_still_tail 10, (by kernel_rfl)
              change wpList _ _ _ _ _ wr.drew
              go_wp2_with fail
              refine (HC.out _ HK.out).mono ?_; rintro r w1 ⟨rfl, b1⟩
              go_wp2
              go_roundw
              case rel => exact ⟨k2 + 1, by go_num, by omega, HWD.out.trans (b1.mono HWD.out.size), HXD.out.below b1, HYD.out.below b1, HN2⟩
              case measure => simp [intOf]; omega
            · have F := Lib.hid (F3.out false (eqv_no (list_ne HLE.out HLE4.out hp)))
              rw [eqv_no hp] at HC
              clear hp
              go_wp2_with fail
              go_still_tail 10, (by kernel_rfl)
              change wpList _ _ _ _ _ wr.drew
              go_wp2_with fail
              refine (HC.out _ HK.out).mono ?_; rintro r w1 ⟨rfl, b1⟩
              go_wp2
              go_ret
              exact ⟨F.out, HWD.out.trans (b1.mono HWD.out.size)⟩
          · have F := Lib.hid (F3.out true (eqv_yes (list_eq_of (by rw [HM.out, HM2.out]) (fun j x hj hx => HN.out j x (by rw [HM.out] at hj; omega) hx))))
            go_wp2
            go_ret
            exact ⟨F.out, HW.out⟩
end Go.Proofs.Ytmiinmndbkdjbaa
