/- A part of the proof: FldX, RefB, RefT, TreeR, Knd, FaultP, one behind another. -/
import Derived.Test.YtppnmeobnilojaaMAA
import Derived.Test.YtppnmeobnilojaaMAB
import Derived.Test.YtppnmeobnilojaaMAC
import Derived.Test.YtppnmeobnilojaaMAD
import Derived.RegionTactic
import Derived.BigRegion
/- The contract of check.Fold; condition: not more than 1000 deep. -/
namespace Go.Proofs.Ytppnmeobnilojaa
set_option linter.unusedVariables false
set_option linter.unusedSimpArgs false
open Go.RowKit
def foldX (e : Ex) : Ex := if rE e then foldE e else e
theorem rE_built {e : Ex} (h : rE e = true) : bE e = true := by unfold rE at h; rw [Bool.and_eq_true] at h; exact h.2
set_option maxRecDepth 100000 in
set_option maxHeartbeats 1000000 in
theorem foldX_any (e : Ex) (X : List Nat) (cs : List Value) (w : World) (hR : RepE w X e cs) (hX : ∀ b ∈ X, b < w.heap.size) (hk : e.rk ≤ 1000) :
    Calls Try.prog 28 #[.agg cs.toArray] w fun x w' => RetE w' X (foldX e) x ∧ Below w.heap.size w w' := by
  obtain ⟨op, no, nm, args, a, len, cap, he, rfl, i1, i2, i3, hS⟩ := hR.inv
  have HF : Hid (foldX e = if rE e then foldE e else e) := rfl
  have HB := Lib.hid (@rE_built e)
  have HX := Lib.hid hX
  have h0 := (Below.refl w.heap.size w).alloc (Nat.le_refl _) (.cells #[.int .i64 op, .int .i64 no, .string nm, .slice a len cap] 46)
  have h1 := h0.alloc (by simp) (.cells #[.int .i64 0, .int .i64 0, .string ⟨#[]⟩, .slice none 0 0] 46)
  have HB0 := Lib.hid h1
  have BX := Lib.hid ((Mem.Blk.new w 46 #[.int .i64 op, .int .i64 no, .string nm, .slice a len cap]).alloc (.cells #[.int .i64 0, .int .i64 0, .string ⟨#[]⟩, .slice none 0 0] 46))
  have e1 : (w.alloc (.cells #[.int .i64 op, .int .i64 no, .string nm, .slice a len cap] 46)).heap.size = w.heap.size + 1 := by simp
  have hBY := Mem.Blk.new (w.alloc (.cells #[.int .i64 op, .int .i64 no, .string nm, .slice a len cap] 46)) 46 #[.int .i64 0, .int .i64 0, .string ⟨#[]⟩, .slice none 0 0]
  rw [e1] at hBY
  have BY := Lib.hid hBY
  have HR0 := Lib.hid (hR.kept (Kept.of_below h1 X))
  have HN0 : Hid (RepE w ((w.heap.size + 1) :: X) e [.int .i64 op, .int .i64 no, .string nm, .slice a len cap]) := hR.less (fun b hb hm => by
    rcases List.mem_cons.1 hm with rfl | hm
    · omega
    · exact hm)
  have HC := Lib.hid (fun W (hW : RepE W [] e _) => rightExpr_any e [.int .i64 op, .int .i64 no, .string nm, .slice a len cap] W hW hk)
  have HK : Hid (∀ (Y : List Nat) W, bE e = true → (∀ b ∈ Y, b < W.heap.size) → RepE W [] e [.int .i64 op, .int .i64 no, .string nm, .slice a len cap] → Calls Try.prog 62 #[.agg #[.int .i64 op, .int .i64 no, .string nm, .slice a len cap]] W fun x w' => RetE w' Y (foldE e) x ∧ Below W.heap.size W w') := fun Y W hb hY hW => fold_any e.rk e (Nat.le_refl _) hb Y _ W hY hW
  clear h0 h1 e1 hBY he i1 i2 i3 hS hR hk hX
  generalize rE e = re at *
  generalize foldX e = R at *
  go_enter Try.func28, Try.ntmps28
  go_upto_region 1 with (fail)
  generalize (w.alloc (.cells #[.int .i64 op, .int .i64 no, .string nm, .slice a len cap] 46)).alloc (.cells #[.int .i64 0, .int .i64 0, .string ⟨#[]⟩, .slice none 0 0] 46) = v at *
  obtain ⟨c0, c1, c2, c3, -, -, -, -⟩ := blk4 BX.out
  go_wp2_with fail
  go_at_call 33
  (with_reducible refine (HC.out v HR0.out.free).mono ?_)
  rintro y w1 ⟨rfl, b1⟩
  have HB1 := Lib.hid (HB0.out.trans (b1.mono HB0.out.size))
  have BX1 := Lib.hid (BX.out.below b1)
  have BY1 := Lib.hid (BY.out.below b1)
  have HR1 := Lib.hid (HR0.out.kept (Kept.of_below b1 X))
  clear b1 HB0 BX BY HR0 HC c0 c1 c2 c3
  obtain ⟨c0, c1, c2, c3, -, -, -, -⟩ := blk4 BX1.out
  have h1 : w.heap.size ≤ w.heap.size + 1 := by omega
  have HN : Hid (RepE w1 ((w.heap.size + 1) :: X) e [.int .i64 op, .int .i64 no, .string nm, .slice a len cap]) := HN0.out.kept (Kept.of_below HB1.out _)
  clear HN0
  cases re with
  | false =>
    obtain ⟨t0, t1, t2, t3, t4, t5, t6, t7⟩ := blk4 BY1.out
    have hm1 : w.heap.size + 1 < w1.heap.size := BY1.out.lt
    have HFN := Lib.hid (ret4E (c0 := .int .i64 op) (c1 := .int .i64 no) (c2 := .string nm) (c3 := .slice a len cap) HB1.out h1 BY1.out HN.out)
    have HF' : R = e := HF.out
    subst HF'
    clear HF BX1 BY1 HN HR1 HB1 HX HB HK h1
    go_wp2_with fail
    generalize (((w1.setCell ⟨w.heap.size + 1, 0, none⟩ (.int .i64 op)).setCell ⟨w.heap.size + 1, 1, none⟩ (.int .i64 no)).setCell ⟨w.heap.size + 1, 2, none⟩ (.string nm)).setCell ⟨w.heap.size + 1, 3, none⟩ (.slice a len cap) = W9 at *
    obtain ⟨r0, r1, r2, r3, -, -, -, -⟩ := blk4 HFN.out.2.2
    refine bodyPost_ret (v := .agg #[.int .i64 op, .int .i64 no, .string nm, .slice a len cap]) (by simp [results, Try.results28, go_sem, r0, r1, r2, r3]) rfl ⟨⟨_, rfl, HFN.out.1⟩, HFN.out.2.1⟩
  | true =>
    have HY := HB.out rfl
    go_wp2_with fail
    go_at_call 62
    (with_reducible refine (HK.out ((w.heap.size + 1) :: X) w1 HY ?_ HR1.out.free).mono ?_)
    · intro b hb
      have := BY1.out.lt
      rcases List.mem_cons.1 hb with rfl | hb
      · exact this
      · have := HX.out b hb; omega
    rintro x w2 ⟨⟨cs2, rfl, hR2⟩, b2⟩
    obtain ⟨o7, n7, m7, r7, a7, l7, p7, hce, rfl, -, -, -, -⟩ := hR2.inv
    have HFN := Lib.hid (ret4E (HB1.out.trans (b2.mono HB1.out.size)) h1 (BY1.out.below b2) hR2)
    have t' := BY1.out.below b2
    have hm1 : w.heap.size + 1 < w2.heap.size := t'.lt
    obtain ⟨t0, t1, t2, t3, t4, t5, t6, t7⟩ := blk4 t'
    have HF' : R = foldE e := HF.out
    subst HF'
    clear HF BX1 BY1 HN HR1 HB1 HX HB HK h1 t' hce hR2 b2 c0 c1 c2 c3
    go_wp2_with fail
    generalize (((w2.setCell ⟨w.heap.size + 1, 0, none⟩ (.int .i64 o7)).setCell ⟨w.heap.size + 1, 1, none⟩ (.int .i64 n7)).setCell ⟨w.heap.size + 1, 2, none⟩ (.string m7)).setCell ⟨w.heap.size + 1, 3, none⟩ (.slice a7 l7 p7) = W9 at *
    obtain ⟨r0, r1, r2, r3, -, -, -, -⟩ := blk4 HFN.out.2.2
    refine bodyPost_ret (v := .agg #[.int .i64 o7, .int .i64 n7, .string m7, .slice a7 l7 p7]) (by simp [results, Try.results28, go_sem, r0, r1, r2, r3]) rfl ⟨⟨_, rfl, HFN.out.1⟩, HFN.out.2.1⟩
end Go.Proofs.Ytppnmeobnilojaa

/- The document's answer: kids, BuiltExpr. -/
namespace Go.Proofs.Ytppnmeobnilojaa
set_option linter.unusedVariables false
set_option linter.unusedSimpArgs false
open Go.RowKit
theorem kids_any (op : Int) (w : World) : Calls Try.prog 85 #[.int .i64 op] w fun e w' => e = .returned (.int .i64 (ar op)) ∧ w = w' := by
  by_cases h5 : op = 19
  · subst h5; rw [show ar 19 = 1 by decide]; go_enter Try.func85, Try.ntmps85; go_wp2; go_ret; exact ⟨rfl, rfl⟩
  by_cases h6 : op = 20
  · subst h6; rw [show ar 20 = 1 by decide]; go_enter Try.func85, Try.ntmps85; go_wp2; go_ret; exact ⟨rfl, rfl⟩
  by_cases h7 : op = 21
  · subst h7; rw [show ar 21 = 3 by decide]; go_enter Try.func85, Try.ntmps85; go_wp2; go_ret; exact ⟨rfl, rfl⟩
  have g5 : (op == 19) = false := by simp [h5]
  have g6 : (op == 20) = false := by simp [h6]
  have g7 : (op == 21) = false := by simp [h7]
  have HF : Hid (∀ x, ar op = x → Ending.returned (.int .i64 x) = .returned (.int .i64 (ar op))) := fun x h => by rw [h]
  have HD := Lib.hid (show ar op = if 1 ≤ op ∧ op ≤ 4 then 0 else if 5 ≤ op ∧ op ≤ 18 then 2 else if op = 19 ∨ op = 20 then 1 else if op = 21 then 3 else -1 from rfl)
  by_cases h1 : 1 ≤ op <;> by_cases h2 : op ≤ 4 <;> by_cases h3 : 5 ≤ op <;> by_cases h4 : op ≤ 18
  all_goals
    first
    | (exfalso; omega)
    | (go_enter Try.func85, Try.ntmps85
       go_wp2
       all_goals
         go_ret
         exact ⟨HF.out _ (by rw [HD.out]; repeat' split <;> omega), rfl⟩)
theorem bE_all (l : List Ex) (h : ∀ (j : Nat) y, l[j]? = some y → bE y = true) : bE.go l = true := by
  rw [bE_go]
  have : (l.any fun e => !bE e) = false := by
    rw [List.any_eq_false]; intro x hx
    obtain ⟨j, hj, rfl⟩ := List.getElem_of_mem hx
    simp [h j _ (List.getElem?_eq_getElem hj)]
  rw [this]; rfl
theorem bE_not (l : List Ex) (k : Nat) (y : Ex) (h : l[k]? = some y) (hy : bE y = false) : bE.go l = false := by
  rw [bE_go]
  have : (l.any fun e => !bE e) = true := by
    rw [List.any_eq_true]; exact ⟨y, List.mem_of_getElem? h, by rw [hy]; rfl⟩
  rw [this]; rfl
set_option maxRecDepth 100000 in
set_option maxHeartbeats 4000000 in
theorem rbuiltExpr_any : ∀ (r : Nat) (e : Ex), e.rk ≤ r → ∀ (cs : List Value) (w : World), RepE w [] e cs →
    Calls Try.prog 58 #[.agg cs.toArray] w fun x w' => x = .returned (.bool (bE e)) ∧ Below w.heap.size w w' := by
  intro r
  induction r with
  | zero => intro e h; have : 1 ≤ e.rk := by cases e; simp only [Ex.rk]; omega
            omega
  | succ r ih =>
    intro e hr cs w hR
    obtain ⟨op, n, nm, args, a, len, cap, rfl, rfl, i1, i2, i3, hS⟩ := hR.inv
    obtain ⟨f1, f2, f3⟩ := hS.facts
    have HS := Lib.hid hS
    have HW0 := Lib.hid ((Below.refl w.heap.size w).alloc (Nat.le_refl _) (.cells #[.int .i64 op, .int .i64 n, .string nm, .slice a len cap] 46))
    have BX := Lib.hid (Mem.Blk.new w 46 #[.int .i64 op, .int .i64 n, .string nm, .slice a len cap])
    have HI : Hid (∀ (k : Nat) e' cs' W, args[k]? = some e' → RepE W [] e' cs' → Calls Try.prog 58 #[.agg cs'.toArray] W fun x w' => x = .returned (.bool (bE e')) ∧ Below W.heap.size W w') := by
      intro k e' cs' W hk hR'
      exact ih e' (by have := Ex.rk_lt (op := op) (n := n) (nm := nm) hk; omega) cs' W hR'
    have HAR := Lib.hid (fun W => kids_any op W)
    have HFR := Lib.hid (fun W => rfree_any nm W i3)
    have HL := Lib.hid f1
    have HB := Lib.hid (show bE (.mk op n nm args) = ((ar op == (len : Nat)) && okE op n nm && bE.go args) by rw [← f1]; rfl)
    have HO := Lib.hid (show okE op n nm = ((n == 0 || op == 1 || op == 2) && (nm.toList.isEmpty || op == 3) && decide (0 ≤ n) && !(op == 2 && decide (2932896 < n)) && !(op == 3 && !fre nm)) from rfl)
    have HT := Lib.hid (bE_all args)
    have HN := Lib.hid (bE_not args)
    have HF : Hid (∀ x, bE (.mk op n nm args) = x → Ending.returned (.bool x) = .returned (.bool (bE (.mk op n nm args)))) := fun x h => by rw [h]
    generalize bE (.mk op n nm args) = R at *
    generalize bE.go args = C at *
    generalize ar op = A at *
    generalize fre nm = FR at *
    generalize okE op n nm = OK at *
    clear ih hr hR hS f1 i1 i2
    by_cases hA : A = (len : Int)
    case neg =>
      have F := Lib.hid (HF.out false (by rw [HB.out]; simp [hA]))
      have t1 : ((len : Int) != A) = true := by simp; exact fun h => hA h.symm
      clear hA
      go_enter Try.func58, Try.ntmps58
      go_wp2_with fail
      go_quiet ((go_at_call 85; exact quiet_left (HAR.out _)))
      go_wp2
      go_ret
      exact ⟨F.out, below_drewN HW0.out _⟩
    subst hA
    have HB2 := Lib.hid (show R = (((n == 0 || op == 1 || op == 2) && (nm.toList.isEmpty || op == 3) && decide (0 ≤ n) && !(op == 2 && decide (2932896 < n)) && !(op == 3 && !FR)) && C) by rw [HB.out, HO.out]; simp)
    clear HB HO
    by_cases o1 : op = 1
    · subst o1
      by_cases hneg : n < 0
      · have F := Lib.hid (HF.out false (by rw [HB2.out]; simp; omega))
        go_enter Try.func58, Try.ntmps58
        go_wp2_with fail
        go_quiet ((go_at_call 85; exact quiet_left (HAR.out _)))
        go_wp2
        go_ret
        exact ⟨F.out, below_drewN HW0.out _⟩
      cases he : nm.toList with
      | cons c0 ct =>
        have he2 : nm.toList.isEmpty = false := by rw [he]; rfl
        have he3 : (!nm.toList.isEmpty) = true := by rw [he2]; rfl
        have F := Lib.hid (HF.out false (by rw [HB2.out, he2]; simp))
        clear he
        go_enter Try.func58, Try.ntmps58
        go_wp2_with fail
        go_quiet ((go_at_call 85; exact quiet_left (HAR.out _)))
        go_wp2
        go_ret
        exact ⟨F.out, below_drewN HW0.out _⟩
      | nil =>
        have he2 : nm.toList.isEmpty = true := by rw [he]; rfl
        have F := Lib.hid (HF.out C (by rw [HB2.out, he2, decide_eq_true (show 0 ≤ n by omega)]; simp))
        go_enter Try.func58, Try.ntmps58
        go_wp2_with fail
        go_quiet ((go_at_call 85; exact quiet_left (HAR.out _)))
        go_wp2_with fail
        have W1 := Lib.hid (below_drewN HW0.out nq)
        obtain ⟨B1, hB1⟩ : ∃ W, W = (w.alloc (.cells #[.int .i64 1, .int .i64 n, .string nm, .slice a len cap] 46)).drewN nq := ⟨_, rfl⟩
        have BX1 : Hid (Mem.Blk B1 w.heap.size 46 #[.int .i64 1, .int .i64 n, .string nm, .slice a len cap]) := by rw [hB1]; exact BX.out
        rw [← hB1] at W1 ⊢
        clear hB1
        go_loopw [3] (fun i wr => ∃ k : Nat, i = .int .i64 (k : Nat) ∧ k ≤ len ∧ Hid (Below w.heap.size w wr) ∧ Hid (Mem.Blk wr w.heap.size 46 #[.int .i64 1, .int .i64 n, .string nm, .slice a len cap]) ∧ Hid (∀ (j : Nat) y, j < k → args[j]? = some y → bE y = true)) (fun i _ => len - (intOf i).toNat)
        case atStart => exact ⟨0, rfl, Nat.zero_le _, W1.out, BX1.out, fun j y hj => absurd hj (Nat.not_lt_zero _)⟩
        case round =>
          obtain ⟨k, rfl, hk, HW, HX, HP⟩ := hrel
          have c3 := HX.out.cell 3
          rw [show (#[.int .i64 1, .int .i64 n, .string nm, .slice a len cap] : Array Value)[3]? = some (.slice a len cap) from rfl] at c3
          by_cases hlt : k < len
          · obtain ⟨b, o, op', n', nm', args', a', len', cap', rfl, hb, hbx, hle, j1, j2, j3, hS', g0, g1, g2, g3⟩ := (HS.out.kept (Kept.of_below HW.out [])).at k hlt
            have HC := Lib.hid (HI.out k _ _ wr hle (RepE.mk' j1 j2 j3 hS'))
            have HLE := Lib.hid hle
            clear hle hS' j1 j2 j3
            generalize Ex.mk op' n' nm' args' = e' at *
            cases hp : bE e'
            · rw [hp] at HC
              have hC : C = false := HN.out k e' HLE.out hp
              have F2 : Hid (Ending.returned (.bool false) = .returned (.bool R)) := by show _ = _; rw [← F.out, hC]
              clear hp hC
              go_wp2_with fail
              refine HC.out.mono ?_; rintro r w1 ⟨rfl, b1⟩
              go_wp2
              go_ret
              exact ⟨F2.out, HW.out.trans (b1.mono HW.out.size)⟩
            · rw [hp] at HC
              have HP2 : Hid (∀ (j : Nat) y, j < k + 1 → args[j]? = some y → bE y = true) := by
                intro j y hj hy
                rcases Nat.lt_or_ge j k with h | h
                · exact HP.out j y h hy
                · obtain rfl : j = k := by omega
                  rw [HLE.out] at hy; injection hy with hy; subst hy; exact hp
              clear hp
              go_wp2_with fail
              refine HC.out.mono ?_; rintro r w1 ⟨rfl, b1⟩
              go_wp2
              go_roundw
              case rel => exact ⟨k + 1, by go_num, by omega, HW.out.trans (b1.mono HW.out.size), HX.out.below b1, HP2⟩
              case measure => simp [intOf]; omega
          · have hC : C = true := HT.out (fun j y hy => HP.out j y (by have := (List.getElem?_eq_some_iff.1 hy).1; have := HL.out; omega) hy)
            have F2 : Hid (Ending.returned (.bool true) = .returned (.bool R)) := by show _ = _; rw [← F.out, hC]
            clear hC
            go_wp2
            go_ret
            exact ⟨F2.out, HW.out⟩
    by_cases o2 : op = 2
    · subst o2
      by_cases hneg : n < 0
      · have F := Lib.hid (HF.out false (by rw [HB2.out]; simp; omega))
        go_enter Try.func58, Try.ntmps58
        go_wp2_with fail
        go_quiet ((go_at_call 85; exact quiet_left (HAR.out _)))
        go_wp2
        go_ret
        exact ⟨F.out, below_drewN HW0.out _⟩
      by_cases hbig : 2932896 < n
      · have F := Lib.hid (HF.out false (by rw [HB2.out]; simp [hbig]))
        go_enter Try.func58, Try.ntmps58
        go_wp2_with fail
        go_quiet ((go_at_call 85; exact quiet_left (HAR.out _)))
        go_wp2
        go_ret
        exact ⟨F.out, below_drewN HW0.out _⟩
      cases he : nm.toList with
      | cons c0 ct =>
        have he2 : nm.toList.isEmpty = false := by rw [he]; rfl
        have he3 : (!nm.toList.isEmpty) = true := by rw [he2]; rfl
        have F := Lib.hid (HF.out false (by rw [HB2.out, he2]; simp))
        clear he
        go_enter Try.func58, Try.ntmps58
        go_wp2_with fail
        go_quiet ((go_at_call 85; exact quiet_left (HAR.out _)))
        go_wp2
        go_ret
        exact ⟨F.out, below_drewN HW0.out _⟩
      | nil =>
        have he2 : nm.toList.isEmpty = true := by rw [he]; rfl
        have F := Lib.hid (HF.out C (by rw [HB2.out, he2, decide_eq_true (show 0 ≤ n by omega), decide_eq_false hbig]; simp))
        go_enter Try.func58, Try.ntmps58
        go_wp2_with fail
        go_quiet ((go_at_call 85; exact quiet_left (HAR.out _)))
        go_wp2_with fail
        have W1 := Lib.hid (below_drewN HW0.out nq)
        obtain ⟨B1, hB1⟩ : ∃ W, W = (w.alloc (.cells #[.int .i64 2, .int .i64 n, .string nm, .slice a len cap] 46)).drewN nq := ⟨_, rfl⟩
        have BX1 : Hid (Mem.Blk B1 w.heap.size 46 #[.int .i64 2, .int .i64 n, .string nm, .slice a len cap]) := by rw [hB1]; exact BX.out
        rw [← hB1] at W1 ⊢
        clear hB1
        go_loopw [3] (fun i wr => ∃ k : Nat, i = .int .i64 (k : Nat) ∧ k ≤ len ∧ Hid (Below w.heap.size w wr) ∧ Hid (Mem.Blk wr w.heap.size 46 #[.int .i64 2, .int .i64 n, .string nm, .slice a len cap]) ∧ Hid (∀ (j : Nat) y, j < k → args[j]? = some y → bE y = true)) (fun i _ => len - (intOf i).toNat)
        case atStart => exact ⟨0, rfl, Nat.zero_le _, W1.out, BX1.out, fun j y hj => absurd hj (Nat.not_lt_zero _)⟩
        case round =>
          obtain ⟨k, rfl, hk, HW, HX, HP⟩ := hrel
          have c3 := HX.out.cell 3
          rw [show (#[.int .i64 2, .int .i64 n, .string nm, .slice a len cap] : Array Value)[3]? = some (.slice a len cap) from rfl] at c3
          by_cases hlt : k < len
          · obtain ⟨b, o, op', n', nm', args', a', len', cap', rfl, hb, hbx, hle, j1, j2, j3, hS', g0, g1, g2, g3⟩ := (HS.out.kept (Kept.of_below HW.out [])).at k hlt
            have HC := Lib.hid (HI.out k _ _ wr hle (RepE.mk' j1 j2 j3 hS'))
            have HLE := Lib.hid hle
            clear hle hS' j1 j2 j3
            generalize Ex.mk op' n' nm' args' = e' at *
            cases hp : bE e'
            · rw [hp] at HC
              have hC : C = false := HN.out k e' HLE.out hp
              have F2 : Hid (Ending.returned (.bool false) = .returned (.bool R)) := by show _ = _; rw [← F.out, hC]
              clear hp hC
              go_wp2_with fail
              refine HC.out.mono ?_; rintro r w1 ⟨rfl, b1⟩
              go_wp2
              go_ret
              exact ⟨F2.out, HW.out.trans (b1.mono HW.out.size)⟩
            · rw [hp] at HC
              have HP2 : Hid (∀ (j : Nat) y, j < k + 1 → args[j]? = some y → bE y = true) := by
                intro j y hj hy
                rcases Nat.lt_or_ge j k with h | h
                · exact HP.out j y h hy
                · obtain rfl : j = k := by omega
                  rw [HLE.out] at hy; injection hy with hy; subst hy; exact hp
              clear hp
              go_wp2_with fail
              refine HC.out.mono ?_; rintro r w1 ⟨rfl, b1⟩
              go_wp2
              go_roundw
              case rel => exact ⟨k + 1, by go_num, by omega, HW.out.trans (b1.mono HW.out.size), HX.out.below b1, HP2⟩
              case measure => simp [intOf]; omega
          · have hC : C = true := HT.out (fun j y hy => HP.out j y (by have := (List.getElem?_eq_some_iff.1 hy).1; have := HL.out; omega) hy)
            have F2 : Hid (Ending.returned (.bool true) = .returned (.bool R)) := by show _ = _; rw [← F.out, hC]
            clear hC
            go_wp2
            go_ret
            exact ⟨F2.out, HW.out⟩
    by_cases o3 : op = 3
    · subst o3
      by_cases hn : n = 0
      case neg =>
        have F := Lib.hid (HF.out false (by rw [HB2.out]; simp [hn]))
        have tn : (n != 0) = true := by simp [hn]
        clear hn
        go_enter Try.func58, Try.ntmps58
        go_wp2_with fail
        go_quiet ((go_at_call 85; exact quiet_left (HAR.out _)))
        go_wp2
        go_ret
        exact ⟨F.out, below_drewN HW0.out _⟩
      subst hn
      cases FR
      · have F := Lib.hid (HF.out false (by rw [HB2.out]; simp))
        go_enter Try.func58, Try.ntmps58
        go_wp2_with fail
        go_quiet ((go_at_call 85; exact quiet_left (HAR.out _)))
        go_wp2_with fail
        refine (HFR.out _).mono ?_; rintro x w1 ⟨rfl, b1⟩
        go_wp2
        go_ret
        exact ⟨F.out, (below_drewN HW0.out _).trans (b1.mono (below_drewN HW0.out _).size)⟩
      · have F := Lib.hid (HF.out C (by rw [HB2.out]; simp))
        go_enter Try.func58, Try.ntmps58
        go_wp2_with fail
        go_quiet ((go_at_call 85; exact quiet_left (HAR.out _)))
        go_wp2_with fail
        refine (HFR.out _).mono ?_; rintro x B1 ⟨rfl, b1⟩
        have W1 := Lib.hid ((below_drewN HW0.out _).trans (b1.mono (below_drewN HW0.out _).size))
        have BX1 := Lib.hid ((show Mem.Blk ((w.alloc (.cells #[.int .i64 3, .int .i64 0, .string nm, .slice a len cap] 46)).drewN nq) w.heap.size 46 #[.int .i64 3, .int .i64 0, .string nm, .slice a len cap] from BX.out).below b1)
        clear b1
        go_wp2_with fail
        go_loopw [3] (fun i wr => ∃ k : Nat, i = .int .i64 (k : Nat) ∧ k ≤ len ∧ Hid (Below w.heap.size w wr) ∧ Hid (Mem.Blk wr w.heap.size 46 #[.int .i64 3, .int .i64 0, .string nm, .slice a len cap]) ∧ Hid (∀ (j : Nat) y, j < k → args[j]? = some y → bE y = true)) (fun i _ => len - (intOf i).toNat)
        case atStart => exact ⟨0, rfl, Nat.zero_le _, W1.out, BX1.out, fun j y hj => absurd hj (Nat.not_lt_zero _)⟩
        case round =>
          obtain ⟨k, rfl, hk, HW, HX, HP⟩ := hrel
          have c3 := HX.out.cell 3
          rw [show (#[.int .i64 3, .int .i64 0, .string nm, .slice a len cap] : Array Value)[3]? = some (.slice a len cap) from rfl] at c3
          by_cases hlt : k < len
          · obtain ⟨b, o, op', n', nm', args', a', len', cap', rfl, hb, hbx, hle, j1, j2, j3, hS', g0, g1, g2, g3⟩ := (HS.out.kept (Kept.of_below HW.out [])).at k hlt
            have HC := Lib.hid (HI.out k _ _ wr hle (RepE.mk' j1 j2 j3 hS'))
            have HLE := Lib.hid hle
            clear hle hS' j1 j2 j3
            generalize Ex.mk op' n' nm' args' = e' at *
            cases hp : bE e'
            · rw [hp] at HC
              have hC : C = false := HN.out k e' HLE.out hp
              have F2 : Hid (Ending.returned (.bool false) = .returned (.bool R)) := by show _ = _; rw [← F.out, hC]
              clear hp hC
              go_wp2_with fail
              refine HC.out.mono ?_; rintro r w1 ⟨rfl, b1⟩
              go_wp2
              go_ret
              exact ⟨F2.out, HW.out.trans (b1.mono HW.out.size)⟩
            · rw [hp] at HC
              have HP2 : Hid (∀ (j : Nat) y, j < k + 1 → args[j]? = some y → bE y = true) := by
                intro j y hj hy
                rcases Nat.lt_or_ge j k with h | h
                · exact HP.out j y h hy
                · obtain rfl : j = k := by omega
                  rw [HLE.out] at hy; injection hy with hy; subst hy; exact hp
              clear hp
              go_wp2_with fail
              refine HC.out.mono ?_; rintro r w1 ⟨rfl, b1⟩
              go_wp2
              go_roundw
              case rel => exact ⟨k + 1, by go_num, by omega, HW.out.trans (b1.mono HW.out.size), HX.out.below b1, HP2⟩
              case measure => simp [intOf]; omega
          · have hC : C = true := HT.out (fun j y hy => HP.out j y (by have := (List.getElem?_eq_some_iff.1 hy).1; have := HL.out; omega) hy)
            have F2 : Hid (Ending.returned (.bool true) = .returned (.bool R)) := by show _ = _; rw [← F.out, hC]
            clear hC
            go_wp2
            go_ret
            exact ⟨F2.out, HW.out⟩
    have g1 : (op == 1) = false := by simp [o1]
    have g2 : (op == 2) = false := by simp [o2]
    have g3 : (op == 3) = false := by simp [o3]
    by_cases hn : n = 0
    case neg =>
      have F := Lib.hid (HF.out false (by rw [HB2.out]; simp [hn, o1, o2]))
      have tn : (n != 0) = true := by simp [hn]
      clear hn o1 o2 o3
      go_enter Try.func58, Try.ntmps58
      go_wp2_with fail
      go_quiet ((go_at_call 85; exact quiet_left (HAR.out _)))
      go_wp2
      go_ret
      exact ⟨F.out, below_drewN HW0.out _⟩
    subst hn
    cases he : nm.toList with
    | cons c0 ct =>
      have he2 : nm.toList.isEmpty = false := by rw [he]; rfl
      have he3 : (!nm.toList.isEmpty) = true := by rw [he2]; rfl
      have F := Lib.hid (HF.out false (by rw [HB2.out, he2]; simp [o3]))
      clear he o1 o2 o3
      go_enter Try.func58, Try.ntmps58
      go_wp2_with fail
      go_quiet ((go_at_call 85; exact quiet_left (HAR.out _)))
      go_wp2
      go_ret
      exact ⟨F.out, below_drewN HW0.out _⟩
    | nil =>
      have he2 : nm.toList.isEmpty = true := by rw [he]; rfl
      have F := Lib.hid (HF.out C (by rw [HB2.out, he2]; simp [o2, o3]))
      clear o1 o2 o3
      go_enter Try.func58, Try.ntmps58
      go_wp2_with fail
      go_quiet ((go_at_call 85; exact quiet_left (HAR.out _)))
      go_wp2_with fail
      have W1 := Lib.hid (below_drewN HW0.out nq)
      obtain ⟨B1, hB1⟩ : ∃ W, W = (w.alloc (.cells #[.int .i64 op, .int .i64 0, .string nm, .slice a len cap] 46)).drewN nq := ⟨_, rfl⟩
      have BX1 : Hid (Mem.Blk B1 w.heap.size 46 #[.int .i64 op, .int .i64 0, .string nm, .slice a len cap]) := by rw [hB1]; exact BX.out
      rw [← hB1] at W1 ⊢
      clear hB1
      go_loopw [3] (fun i wr => ∃ k : Nat, i = .int .i64 (k : Nat) ∧ k ≤ len ∧ Hid (Below w.heap.size w wr) ∧ Hid (Mem.Blk wr w.heap.size 46 #[.int .i64 op, .int .i64 0, .string nm, .slice a len cap]) ∧ Hid (∀ (j : Nat) y, j < k → args[j]? = some y → bE y = true)) (fun i _ => len - (intOf i).toNat)
      case atStart => exact ⟨0, rfl, Nat.zero_le _, W1.out, BX1.out, fun j y hj => absurd hj (Nat.not_lt_zero _)⟩
      case round =>
        obtain ⟨k, rfl, hk, HW, HX, HP⟩ := hrel
        have c3 := HX.out.cell 3
        rw [show (#[.int .i64 op, .int .i64 0, .string nm, .slice a len cap] : Array Value)[3]? = some (.slice a len cap) from rfl] at c3
        by_cases hlt : k < len
        · obtain ⟨b, o, op', n', nm', args', a', len', cap', rfl, hb, hbx, hle, j1, j2, j3, hS', g0, g1, g2, g3⟩ := (HS.out.kept (Kept.of_below HW.out [])).at k hlt
          have HC := Lib.hid (HI.out k _ _ wr hle (RepE.mk' j1 j2 j3 hS'))
          have HLE := Lib.hid hle
          clear hle hS' j1 j2 j3
          generalize Ex.mk op' n' nm' args' = e' at *
          cases hp : bE e'
          · rw [hp] at HC
            have hC : C = false := HN.out k e' HLE.out hp
            have F2 : Hid (Ending.returned (.bool false) = .returned (.bool R)) := by show _ = _; rw [← F.out, hC]
            clear hp hC
            go_wp2_with fail
            refine HC.out.mono ?_; rintro r w1 ⟨rfl, b1⟩
            go_wp2
            go_ret
            exact ⟨F2.out, HW.out.trans (b1.mono HW.out.size)⟩
          · rw [hp] at HC
            have HP2 : Hid (∀ (j : Nat) y, j < k + 1 → args[j]? = some y → bE y = true) := by
              intro j y hj hy
              rcases Nat.lt_or_ge j k with h | h
              · exact HP.out j y h hy
              · obtain rfl : j = k := by omega
                rw [HLE.out] at hy; injection hy with hy; subst hy; exact hp
            clear hp
            go_wp2_with fail
            refine HC.out.mono ?_; rintro r w1 ⟨rfl, b1⟩
            go_wp2
            go_roundw
            case rel => exact ⟨k + 1, by go_num, by omega, HW.out.trans (b1.mono HW.out.size), HX.out.below b1, HP2⟩
            case measure => simp [intOf]; omega
        · have hC : C = true := HT.out (fun j y hy => HP.out j y (by have := (List.getElem?_eq_some_iff.1 hy).1; have := HL.out; omega) hy)
          have F2 : Hid (Ending.returned (.bool true) = .returned (.bool R)) := by show _ = _; rw [← F.out, hC]
          clear hC
          go_wp2
          go_ret
          exact ⟨F2.out, HW.out⟩
end Go.Proofs.Ytppnmeobnilojaa

/- The document's answer: Built. -/
namespace Go.Proofs.Ytppnmeobnilojaa
set_option linter.unusedVariables false
set_option linter.unusedSimpArgs false
open Go.RowKit
theorem bT_all (l : List Te) (h : ∀ (j : Nat) y, l[j]? = some y → bT y = true) : bT.go l = true := by
  rw [bT_go]
  have : (l.any fun e => !bT e) = false := by
    rw [List.any_eq_false]; intro x hx
    obtain ⟨j, hj, rfl⟩ := List.getElem_of_mem hx
    simp [h j _ (List.getElem?_eq_getElem hj)]
  rw [this]; rfl
theorem bT_not (l : List Te) (k : Nat) (y : Te) (h : l[k]? = some y) (hy : bT y = false) : bT.go l = false := by
  rw [bT_go]
  have : (l.any fun e => !bT e) = true := by
    rw [List.any_eq_true]; exact ⟨y, List.mem_of_getElem? h, by rw [hy]; rfl⟩
  rw [this]; rfl
set_option maxRecDepth 100000 in
set_option maxHeartbeats 8000000 in
theorem rbuilt_any : ∀ (r : Nat) (e : Te), e.rk ≤ r → ∀ (cs : List Value) (w : World), RepT w [] e cs →
    Calls Try.prog 50 #[.agg cs.toArray] w fun x w' => x = .returned (.bool (bT e)) ∧ Below w.heap.size w w' := by
  intro r
  induction r with
  | zero => intro e h; have := e.rk_pos; omega
  | succ r ih =>
    intro e hr cs w hR
    obtain ⟨op, nm, exprs, terms, a, len, cap, a2, len2, cap2, rfl, rfl, i1, i3, hS, hS2⟩ := hR.inv
    obtain ⟨f1, f2, f3⟩ := hS.facts
    obtain ⟨f4, f5, f6⟩ := hS2.facts
    have HS := Lib.hid hS
    have HS2 := Lib.hid hS2
    have HW0 := Lib.hid ((Below.refl w.heap.size w).alloc (Nat.le_refl _) (.cells #[.int .i64 op, .string nm, .slice a len cap, .slice a2 len2 cap2] 35))
    have BX := Lib.hid (Mem.Blk.new w 35 #[.int .i64 op, .string nm, .slice a len cap, .slice a2 len2 cap2])
    have HI : Hid (∀ (k : Nat) e' cs' W, terms[k]? = some e' → RepT W [] e' cs' → Calls Try.prog 50 #[.agg cs'.toArray] W fun x w' => x = .returned (.bool (bT e')) ∧ Below W.heap.size W w') := by
      intro k e' cs' W hk hR'
      exact ih e' (by have := Te.rk_lt (op := op) (nm := nm) (x := exprs) hk; omega) cs' W hR'
    have HFR := Lib.hid (fun W => rfree_any nm W i3)
    have HL := Lib.hid f1
    have HL2 := Lib.hid f4
    have HB := Lib.hid (show bT (.mk op nm exprs terms) = ((arX op == (len : Nat)) && (arT op == (len2 : Nat)) && (!(op == 2 && !fre nm) && !(op != 2 && !nm.toList.isEmpty)) && bE.go exprs && bT.go terms) by rw [bE_go, ← f1, ← f4]; rfl)
    have HT := Lib.hid (bE_all exprs)
    have HN := Lib.hid (bE_not exprs)
    have HT2 := Lib.hid (bT_all terms)
    have HN2 := Lib.hid (bT_not terms)
    have HF : Hid (∀ x, bT (.mk op nm exprs terms) = x → Ending.returned (.bool x) = .returned (.bool (bT (.mk op nm exprs terms)))) := fun x h => by rw [h]
    generalize bT (.mk op nm exprs terms) = R at *
    generalize bE.go exprs = C at *
    generalize bT.go terms = D at *
    generalize fre nm = FR at *
    clear ih hr hR hS hS2 f1 f4 i1
    by_cases hlo : op < 1
    · have F := Lib.hid (HF.out false (by rw [HB.out, show arX op = -1 by unfold arX; rw [if_neg (by omega), if_neg (by omega)]]; rw [show ((-1 : Int) == (len : Nat)) = false by rw [beq_eq_false_iff_ne]; omega]; rfl))
      have g3 : (op == 3) = false := by simp; omega
      have g4 : (op == 4) = false := by simp; omega
      have g5 : (op == 5) = false := by simp; omega
      go_enter Try.func50, Try.ntmps50
      go_wp2
      go_ret
      exact ⟨F.out, HW0.out⟩
    by_cases hhi : 9 < op
    · have F := Lib.hid (HF.out false (by rw [HB.out, show arX op = -1 by unfold arX; rw [if_neg (by omega), if_neg (by omega)]]; rw [show ((-1 : Int) == (len : Nat)) = false by rw [beq_eq_false_iff_ne]; omega]; rfl))
      have g3 : (op == 3) = false := by simp; omega
      have g4 : (op == 4) = false := by simp; omega
      have g5 : (op == 5) = false := by simp; omega
      go_enter Try.func50, Try.ntmps50
      go_wp2
      go_ret
      exact ⟨F.out, HW0.out⟩
    by_cases o2 : op = 2
    · subst o2
      have HX : Hid (arX 2 = 0) := by show _ = _; unfold arX; first | decide | (rw [if_neg (by omega), if_pos (by omega)])
      have HY : Hid (arT 2 = 0) := by show _ = _; unfold arT; first | decide | (rw [if_neg (by omega), if_neg (by omega), if_neg (by omega), if_pos (by omega)])
      by_cases hL : len = 0
      case neg =>
        have F := Lib.hid (HF.out false (by rw [HB.out, HX.out, show ((0 : Int) == (len : Nat)) = false by rw [beq_eq_false_iff_ne]; omega]; rfl))
        have t1 : ((len : Int) != 0) = true := by rw [bne_iff_ne]; omega
        clear hL
        go_enter Try.func50, Try.ntmps50
        go_wp2
        go_ret
        exact ⟨F.out, HW0.out⟩
      subst hL
      by_cases hL2 : len2 = 0
      case neg =>
        have F := Lib.hid (HF.out false (by rw [HB.out, HY.out, show ((0 : Int) == (len2 : Nat)) = false by rw [beq_eq_false_iff_ne]; omega]; simp))
        have t1 : ((len2 : Int) != 0) = true := by rw [bne_iff_ne]; omega
        clear hL2
        go_enter Try.func50, Try.ntmps50
        go_wp2
        go_ret
        exact ⟨F.out, HW0.out⟩
      subst hL2
      cases FR
      · have F := Lib.hid (HF.out false (by rw [HB.out]; simp))
        go_enter Try.func50, Try.ntmps50
        go_wp2_with fail
        refine (HFR.out _).mono ?_; rintro x B1 ⟨rfl, b1⟩
        go_wp2
        go_ret
        exact ⟨F.out, HW0.out.trans (b1.mono HW0.out.size)⟩
      · have F := Lib.hid (HF.out (C && D) (by rw [HB.out, HX.out, HY.out]; simp))
        go_enter Try.func50, Try.ntmps50
        go_wp2_with fail
        refine (HFR.out _).mono ?_; rintro x B1 ⟨rfl, b1⟩
        have W1 := Lib.hid (HW0.out.trans (b1.mono HW0.out.size))
        have BX1 := Lib.hid (BX.out.below b1)
        have c0 : B1.cell? ⟨w.heap.size, 0, none⟩ = some (.int .i64 2) := BX1.out.cell 0
        clear b1
        go_wp2_with fail
        clear c0
        go_loopw [5] (fun i wr => ∃ k : Nat, i = .int .i64 (k : Nat) ∧ k ≤ 0 ∧ Hid (Below w.heap.size w wr) ∧ Hid (Mem.Blk wr w.heap.size 35 #[.int .i64 2, .string nm, .slice a 0 cap, .slice a2 0 cap2]) ∧ Hid (∀ (j : Nat) y, j < k → exprs[j]? = some y → bE y = true)) (fun i _ => 0 - (intOf i).toNat)
        case atStart => exact ⟨0, rfl, Nat.zero_le _, W1.out, BX1.out, fun j y hj => absurd hj (Nat.not_lt_zero _)⟩
        case round =>
          clear W1 BX1
          obtain ⟨k, rfl, hk, HW, HXB, HP⟩ := hrel
          have c2 : wr.cell? ⟨w.heap.size, 2, none⟩ = some (.slice a 0 cap) := HXB.out.cell 2
          by_cases hlt : k < 0
          · obtain ⟨b, o, op', n', nm', args', a', len', cap', rfl, hb, hbx, hle, j1, j2, j3, hS', g0, g1, g2, g3⟩ := (HS.out.kept (Kept.of_below HW.out [])).at k hlt
            have HC := Lib.hid (rbuiltExpr_any (Ex.mk op' n' nm' args').rk _ (Nat.le_refl _) _ wr (RepE.mk' j1 j2 j3 hS'))
            have HLE := Lib.hid hle
            clear hle hS' j1 j2 j3
            generalize Ex.mk op' n' nm' args' = e' at *
            cases hp : bE e'
            · rw [hp] at HC
              have hC : C = false := HN.out k e' HLE.out hp
              have F2 : Hid (Ending.returned (.bool false) = .returned (.bool R)) := by show _ = _; rw [← F.out, hC]; rfl
              clear hp hC
              go_wp2_with fail
              all_goals
                refine HC.out.mono ?_; rintro r w1 ⟨rfl, b1⟩
                go_wp2
                go_ret
                exact ⟨F2.out, HW.out.trans (b1.mono HW.out.size)⟩
            · rw [hp] at HC
              have HP2 : Hid (∀ (j : Nat) y, j < k + 1 → exprs[j]? = some y → bE y = true) := by
                intro j y hj hy
                rcases Nat.lt_or_ge j k with h | h
                · exact HP.out j y h hy
                · obtain rfl : j = k := by omega
                  rw [HLE.out] at hy; injection hy with hy; subst hy; exact hp
              clear hp
              go_wp2_with fail
              all_goals
                refine HC.out.mono ?_; rintro r w1 ⟨rfl, b1⟩
                go_wp2
                go_roundw
                case rel => exact ⟨k + 1, by go_num, by omega, HW.out.trans (b1.mono HW.out.size), HXB.out.below b1, HP2⟩
                case measure => simp [intOf]; omega
          · have hC : C = true := HT.out (fun j y hy => HP.out j y (by have := (List.getElem?_eq_some_iff.1 hy).1; have := HL.out; omega) hy)
            have F3 : Hid (∀ b, D = b → Ending.returned (.bool b) = .returned (.bool R)) := by
              intro b hb; rw [← F.out, hC, hb]; rfl
            have W2 := HW
            have B2 := HXB
            clear hC c2 HP HW HXB
            go_wp2_with fail
            go_loopw [6] (fun i wr => ∃ k : Nat, i = .int .i64 (k : Nat) ∧ k ≤ 0 ∧ Hid (Below w.heap.size w wr) ∧ Hid (Mem.Blk wr w.heap.size 35 #[.int .i64 2, .string nm, .slice a 0 cap, .slice a2 0 cap2]) ∧ Hid (∀ (j : Nat) y, j < k → terms[j]? = some y → bT y = true)) (fun i _ => 0 - (intOf i).toNat)
            case atStart => exact ⟨0, rfl, Nat.zero_le _, W2.out, B2.out, fun j y hj => absurd hj (Nat.not_lt_zero _)⟩
            case round =>
              clear W2 B2
              obtain ⟨k2, rfl, hk2, HW, HXB, HP⟩ := hrel
              have c3 : wr.cell? ⟨w.heap.size, 3, none⟩ = some (.slice a2 0 cap2) := HXB.out.cell 3
              by_cases hlt2 : k2 < 0
              · obtain ⟨b, o, op', nm', ex', te', a', len', cap', a3, len3, cap3, rfl, hb, hbx, hle, j1, j3, hS', hS3, g0, g1, g2, g3⟩ := (HS2.out.kept (Kept.of_below HW.out [])).at k2 hlt2
                have HC := Lib.hid (HI.out k2 _ _ wr hle (RepT.mk' j1 j3 hS' hS3))
                have HLE := Lib.hid hle
                clear hle hS' hS3 j1 j3
                generalize Te.mk op' nm' ex' te' = e' at *
                cases hp : bT e'
                · rw [hp] at HC
                  have F4 := Lib.hid (F3.out false (HN2.out k2 e' HLE.out hp))
                  clear hp
                  go_wp2_with fail
                  all_goals
                    refine HC.out.mono ?_; rintro r w1 ⟨rfl, b1⟩
                    go_wp2
                    go_ret
                    exact ⟨F4.out, HW.out.trans (b1.mono HW.out.size)⟩
                · rw [hp] at HC
                  have HP2 : Hid (∀ (j : Nat) y, j < k2 + 1 → terms[j]? = some y → bT y = true) := by
                    intro j y hj hy
                    rcases Nat.lt_or_ge j k2 with h | h
                    · exact HP.out j y h hy
                    · obtain rfl : j = k2 := by omega
                      rw [HLE.out] at hy; injection hy with hy; subst hy; exact hp
                  clear hp
                  go_wp2_with fail
                  all_goals
                    refine HC.out.mono ?_; rintro r w1 ⟨rfl, b1⟩
                    go_wp2
                    go_roundw
                    case rel => exact ⟨k2 + 1, by go_num, by omega, HW.out.trans (b1.mono HW.out.size), HXB.out.below b1, HP2⟩
                    case measure => simp [intOf]; omega
              · have F4 := Lib.hid (F3.out true (HT2.out (fun j y hy => HP.out j y (by have := (List.getElem?_eq_some_iff.1 hy).1; have := HL2.out; omega) hy)))
                go_wp2
                go_ret
                exact ⟨F4.out, HW.out⟩
    have g2 : (op == 2) = false := by simp [o2]
    have g2' : (op != 2) = true := by simp [o2]
    obtain h | h | h | h : op = 1 ∨ op = 3 ∨ (op = 4 ∨ op = 5) ∨ 6 ≤ op := by omega
    · subst h
      have HX : Hid (arX 1 = 0) := by show _ = _; unfold arX; first | decide | (rw [if_neg (by omega), if_pos (by omega)])
      have HY : Hid (arT 1 = 0) := by show _ = _; unfold arT; first | decide | (rw [if_neg (by omega), if_neg (by omega), if_neg (by omega), if_pos (by omega)])
      by_cases hL : len = 0
      case neg =>
        have F := Lib.hid (HF.out false (by rw [HB.out, HX.out, show ((0 : Int) == (len : Nat)) = false by rw [beq_eq_false_iff_ne]; omega]; rfl))
        have t1 : ((len : Int) != 0) = true := by rw [bne_iff_ne]; omega
        clear hL
        go_enter Try.func50, Try.ntmps50
        go_wp2
        go_ret
        exact ⟨F.out, HW0.out⟩
      subst hL
      by_cases hL2 : len2 = 0
      case neg =>
        have F := Lib.hid (HF.out false (by rw [HB.out, HY.out, show ((0 : Int) == (len2 : Nat)) = false by rw [beq_eq_false_iff_ne]; omega]; simp))
        have t1 : ((len2 : Int) != 0) = true := by rw [bne_iff_ne]; omega
        clear hL2
        go_enter Try.func50, Try.ntmps50
        go_wp2
        go_ret
        exact ⟨F.out, HW0.out⟩
      subst hL2
      cases he : nm.toList with
      | cons c0 ct =>
        have he2 : nm.toList.isEmpty = false := by rw [he]; rfl
        have he3 : (!nm.toList.isEmpty) = true := by rw [he2]; rfl
        have F := Lib.hid (HF.out false (by rw [HB.out, he2, g2, g2']; simp))
        clear he
        go_enter Try.func50, Try.ntmps50
        go_wp2
        go_ret
        exact ⟨F.out, HW0.out⟩
      | nil =>
        have he2 : nm.toList.isEmpty = true := by rw [he]; rfl
        have F := Lib.hid (HF.out (C && D) (by rw [HB.out, HX.out, HY.out, he2, g2, g2']; simp))
        have W1 := HW0
        have BX1 := BX
        go_enter Try.func50, Try.ntmps50
        go_wp2_with fail
        generalize w.alloc (.cells #[.int .i64 1, .string nm, .slice a 0 cap, .slice a2 0 cap2] 35) = B1 at *
        go_loopw [5] (fun i wr => ∃ k : Nat, i = .int .i64 (k : Nat) ∧ k ≤ 0 ∧ Hid (Below w.heap.size w wr) ∧ Hid (Mem.Blk wr w.heap.size 35 #[.int .i64 1, .string nm, .slice a 0 cap, .slice a2 0 cap2]) ∧ Hid (∀ (j : Nat) y, j < k → exprs[j]? = some y → bE y = true)) (fun i _ => 0 - (intOf i).toNat)
        case atStart => exact ⟨0, rfl, Nat.zero_le _, W1.out, BX1.out, fun j y hj => absurd hj (Nat.not_lt_zero _)⟩
        case round =>
          clear W1 BX1
          obtain ⟨k, rfl, hk, HW, HXB, HP⟩ := hrel
          have c2 : wr.cell? ⟨w.heap.size, 2, none⟩ = some (.slice a 0 cap) := HXB.out.cell 2
          by_cases hlt : k < 0
          · obtain ⟨b, o, op', n', nm', args', a', len', cap', rfl, hb, hbx, hle, j1, j2, j3, hS', g0, g1, g2, g3⟩ := (HS.out.kept (Kept.of_below HW.out [])).at k hlt
            have HC := Lib.hid (rbuiltExpr_any (Ex.mk op' n' nm' args').rk _ (Nat.le_refl _) _ wr (RepE.mk' j1 j2 j3 hS'))
            have HLE := Lib.hid hle
            clear hle hS' j1 j2 j3
            generalize Ex.mk op' n' nm' args' = e' at *
            cases hp : bE e'
            · rw [hp] at HC
              have hC : C = false := HN.out k e' HLE.out hp
              have F2 : Hid (Ending.returned (.bool false) = .returned (.bool R)) := by show _ = _; rw [← F.out, hC]; rfl
              clear hp hC
              go_wp2_with fail
              all_goals
                refine HC.out.mono ?_; rintro r w1 ⟨rfl, b1⟩
                go_wp2
                go_ret
                exact ⟨F2.out, HW.out.trans (b1.mono HW.out.size)⟩
            · rw [hp] at HC
              have HP2 : Hid (∀ (j : Nat) y, j < k + 1 → exprs[j]? = some y → bE y = true) := by
                intro j y hj hy
                rcases Nat.lt_or_ge j k with h | h
                · exact HP.out j y h hy
                · obtain rfl : j = k := by omega
                  rw [HLE.out] at hy; injection hy with hy; subst hy; exact hp
              clear hp
              go_wp2_with fail
              all_goals
                refine HC.out.mono ?_; rintro r w1 ⟨rfl, b1⟩
                go_wp2
                go_roundw
                case rel => exact ⟨k + 1, by go_num, by omega, HW.out.trans (b1.mono HW.out.size), HXB.out.below b1, HP2⟩
                case measure => simp [intOf]; omega
          · have hC : C = true := HT.out (fun j y hy => HP.out j y (by have := (List.getElem?_eq_some_iff.1 hy).1; have := HL.out; omega) hy)
            have F3 : Hid (∀ b, D = b → Ending.returned (.bool b) = .returned (.bool R)) := by
              intro b hb; rw [← F.out, hC, hb]; rfl
            have W2 := HW
            have B2 := HXB
            clear hC c2 HP HW HXB
            go_wp2_with fail
            go_loopw [6] (fun i wr => ∃ k : Nat, i = .int .i64 (k : Nat) ∧ k ≤ 0 ∧ Hid (Below w.heap.size w wr) ∧ Hid (Mem.Blk wr w.heap.size 35 #[.int .i64 1, .string nm, .slice a 0 cap, .slice a2 0 cap2]) ∧ Hid (∀ (j : Nat) y, j < k → terms[j]? = some y → bT y = true)) (fun i _ => 0 - (intOf i).toNat)
            case atStart => exact ⟨0, rfl, Nat.zero_le _, W2.out, B2.out, fun j y hj => absurd hj (Nat.not_lt_zero _)⟩
            case round =>
              clear W2 B2
              obtain ⟨k2, rfl, hk2, HW, HXB, HP⟩ := hrel
              have c3 : wr.cell? ⟨w.heap.size, 3, none⟩ = some (.slice a2 0 cap2) := HXB.out.cell 3
              by_cases hlt2 : k2 < 0
              · obtain ⟨b, o, op', nm', ex', te', a', len', cap', a3, len3, cap3, rfl, hb, hbx, hle, j1, j3, hS', hS3, g0, g1, g2, g3⟩ := (HS2.out.kept (Kept.of_below HW.out [])).at k2 hlt2
                have HC := Lib.hid (HI.out k2 _ _ wr hle (RepT.mk' j1 j3 hS' hS3))
                have HLE := Lib.hid hle
                clear hle hS' hS3 j1 j3
                generalize Te.mk op' nm' ex' te' = e' at *
                cases hp : bT e'
                · rw [hp] at HC
                  have F4 := Lib.hid (F3.out false (HN2.out k2 e' HLE.out hp))
                  clear hp
                  go_wp2_with fail
                  all_goals
                    refine HC.out.mono ?_; rintro r w1 ⟨rfl, b1⟩
                    go_wp2
                    go_ret
                    exact ⟨F4.out, HW.out.trans (b1.mono HW.out.size)⟩
                · rw [hp] at HC
                  have HP2 : Hid (∀ (j : Nat) y, j < k2 + 1 → terms[j]? = some y → bT y = true) := by
                    intro j y hj hy
                    rcases Nat.lt_or_ge j k2 with h | h
                    · exact HP.out j y h hy
                    · obtain rfl : j = k2 := by omega
                      rw [HLE.out] at hy; injection hy with hy; subst hy; exact hp
                  clear hp
                  go_wp2_with fail
                  all_goals
                    refine HC.out.mono ?_; rintro r w1 ⟨rfl, b1⟩
                    go_wp2
                    go_roundw
                    case rel => exact ⟨k2 + 1, by go_num, by omega, HW.out.trans (b1.mono HW.out.size), HXB.out.below b1, HP2⟩
                    case measure => simp [intOf]; omega
              · have F4 := Lib.hid (F3.out true (HT2.out (fun j y hy => HP.out j y (by have := (List.getElem?_eq_some_iff.1 hy).1; have := HL2.out; omega) hy)))
                go_wp2
                go_ret
                exact ⟨F4.out, HW.out⟩
    · subst h
      have HX : Hid (arX 3 = 0) := by show _ = _; unfold arX; first | decide | (rw [if_neg (by omega), if_pos (by omega)])
      have HY : Hid (arT 3 = 1) := by show _ = _; unfold arT; first | decide | (rw [if_neg (by omega), if_neg (by omega), if_neg (by omega), if_pos (by omega)])
      by_cases hL : len = 0
      case neg =>
        have F := Lib.hid (HF.out false (by rw [HB.out, HX.out, show ((0 : Int) == (len : Nat)) = false by rw [beq_eq_false_iff_ne]; omega]; rfl))
        have t1 : ((len : Int) != 0) = true := by rw [bne_iff_ne]; omega
        clear hL
        go_enter Try.func50, Try.ntmps50
        go_wp2
        go_ret
        exact ⟨F.out, HW0.out⟩
      subst hL
      by_cases hL2 : len2 = 1
      case neg =>
        have F := Lib.hid (HF.out false (by rw [HB.out, HY.out, show ((1 : Int) == (len2 : Nat)) = false by rw [beq_eq_false_iff_ne]; omega]; simp))
        have t1 : ((len2 : Int) != 1) = true := by rw [bne_iff_ne]; omega
        clear hL2
        go_enter Try.func50, Try.ntmps50
        go_wp2
        go_ret
        exact ⟨F.out, HW0.out⟩
      subst hL2
      cases he : nm.toList with
      | cons c0 ct =>
        have he2 : nm.toList.isEmpty = false := by rw [he]; rfl
        have he3 : (!nm.toList.isEmpty) = true := by rw [he2]; rfl
        have F := Lib.hid (HF.out false (by rw [HB.out, he2, g2, g2']; simp))
        clear he
        go_enter Try.func50, Try.ntmps50
        go_wp2
        go_ret
        exact ⟨F.out, HW0.out⟩
      | nil =>
        have he2 : nm.toList.isEmpty = true := by rw [he]; rfl
        have F := Lib.hid (HF.out (C && D) (by rw [HB.out, HX.out, HY.out, he2, g2, g2']; simp))
        have W1 := HW0
        have BX1 := BX
        go_enter Try.func50, Try.ntmps50
        go_wp2_with fail
        generalize w.alloc (.cells #[.int .i64 3, .string nm, .slice a 0 cap, .slice a2 1 cap2] 35) = B1 at *
        go_loopw [5] (fun i wr => ∃ k : Nat, i = .int .i64 (k : Nat) ∧ k ≤ 0 ∧ Hid (Below w.heap.size w wr) ∧ Hid (Mem.Blk wr w.heap.size 35 #[.int .i64 3, .string nm, .slice a 0 cap, .slice a2 1 cap2]) ∧ Hid (∀ (j : Nat) y, j < k → exprs[j]? = some y → bE y = true)) (fun i _ => 0 - (intOf i).toNat)
        case atStart => exact ⟨0, rfl, Nat.zero_le _, W1.out, BX1.out, fun j y hj => absurd hj (Nat.not_lt_zero _)⟩
        case round =>
          clear W1 BX1
          obtain ⟨k, rfl, hk, HW, HXB, HP⟩ := hrel
          have c2 : wr.cell? ⟨w.heap.size, 2, none⟩ = some (.slice a 0 cap) := HXB.out.cell 2
          by_cases hlt : k < 0
          · obtain ⟨b, o, op', n', nm', args', a', len', cap', rfl, hb, hbx, hle, j1, j2, j3, hS', g0, g1, g2, g3⟩ := (HS.out.kept (Kept.of_below HW.out [])).at k hlt
            have HC := Lib.hid (rbuiltExpr_any (Ex.mk op' n' nm' args').rk _ (Nat.le_refl _) _ wr (RepE.mk' j1 j2 j3 hS'))
            have HLE := Lib.hid hle
            clear hle hS' j1 j2 j3
            generalize Ex.mk op' n' nm' args' = e' at *
            cases hp : bE e'
            · rw [hp] at HC
              have hC : C = false := HN.out k e' HLE.out hp
              have F2 : Hid (Ending.returned (.bool false) = .returned (.bool R)) := by show _ = _; rw [← F.out, hC]; rfl
              clear hp hC
              go_wp2_with fail
              all_goals
                refine HC.out.mono ?_; rintro r w1 ⟨rfl, b1⟩
                go_wp2
                go_ret
                exact ⟨F2.out, HW.out.trans (b1.mono HW.out.size)⟩
            · rw [hp] at HC
              have HP2 : Hid (∀ (j : Nat) y, j < k + 1 → exprs[j]? = some y → bE y = true) := by
                intro j y hj hy
                rcases Nat.lt_or_ge j k with h | h
                · exact HP.out j y h hy
                · obtain rfl : j = k := by omega
                  rw [HLE.out] at hy; injection hy with hy; subst hy; exact hp
              clear hp
              go_wp2_with fail
              all_goals
                refine HC.out.mono ?_; rintro r w1 ⟨rfl, b1⟩
                go_wp2
                go_roundw
                case rel => exact ⟨k + 1, by go_num, by omega, HW.out.trans (b1.mono HW.out.size), HXB.out.below b1, HP2⟩
                case measure => simp [intOf]; omega
          · have hC : C = true := HT.out (fun j y hy => HP.out j y (by have := (List.getElem?_eq_some_iff.1 hy).1; have := HL.out; omega) hy)
            have F3 : Hid (∀ b, D = b → Ending.returned (.bool b) = .returned (.bool R)) := by
              intro b hb; rw [← F.out, hC, hb]; rfl
            have W2 := HW
            have B2 := HXB
            clear hC c2 HP HW HXB
            go_wp2_with fail
            go_loopw [6] (fun i wr => ∃ k : Nat, i = .int .i64 (k : Nat) ∧ k ≤ 1 ∧ Hid (Below w.heap.size w wr) ∧ Hid (Mem.Blk wr w.heap.size 35 #[.int .i64 3, .string nm, .slice a 0 cap, .slice a2 1 cap2]) ∧ Hid (∀ (j : Nat) y, j < k → terms[j]? = some y → bT y = true)) (fun i _ => 1 - (intOf i).toNat)
            case atStart => exact ⟨0, rfl, Nat.zero_le _, W2.out, B2.out, fun j y hj => absurd hj (Nat.not_lt_zero _)⟩
            case round =>
              clear W2 B2
              obtain ⟨k2, rfl, hk2, HW, HXB, HP⟩ := hrel
              have c3 : wr.cell? ⟨w.heap.size, 3, none⟩ = some (.slice a2 1 cap2) := HXB.out.cell 3
              by_cases hlt2 : k2 < 1
              · obtain ⟨b, o, op', nm', ex', te', a', len', cap', a3, len3, cap3, rfl, hb, hbx, hle, j1, j3, hS', hS3, g0, g1, g2, g3⟩ := (HS2.out.kept (Kept.of_below HW.out [])).at k2 hlt2
                have HC := Lib.hid (HI.out k2 _ _ wr hle (RepT.mk' j1 j3 hS' hS3))
                have HLE := Lib.hid hle
                clear hle hS' hS3 j1 j3
                generalize Te.mk op' nm' ex' te' = e' at *
                cases hp : bT e'
                · rw [hp] at HC
                  have F4 := Lib.hid (F3.out false (HN2.out k2 e' HLE.out hp))
                  clear hp
                  go_wp2_with fail
                  all_goals
                    refine HC.out.mono ?_; rintro r w1 ⟨rfl, b1⟩
                    go_wp2
                    go_ret
                    exact ⟨F4.out, HW.out.trans (b1.mono HW.out.size)⟩
                · rw [hp] at HC
                  have HP2 : Hid (∀ (j : Nat) y, j < k2 + 1 → terms[j]? = some y → bT y = true) := by
                    intro j y hj hy
                    rcases Nat.lt_or_ge j k2 with h | h
                    · exact HP.out j y h hy
                    · obtain rfl : j = k2 := by omega
                      rw [HLE.out] at hy; injection hy with hy; subst hy; exact hp
                  clear hp
                  go_wp2_with fail
                  all_goals
                    refine HC.out.mono ?_; rintro r w1 ⟨rfl, b1⟩
                    go_wp2
                    go_roundw
                    case rel => exact ⟨k2 + 1, by go_num, by omega, HW.out.trans (b1.mono HW.out.size), HXB.out.below b1, HP2⟩
                    case measure => simp [intOf]; omega
              · have F4 := Lib.hid (F3.out true (HT2.out (fun j y hy => HP.out j y (by have := (List.getElem?_eq_some_iff.1 hy).1; have := HL2.out; omega) hy)))
                go_wp2
                go_ret
                exact ⟨F4.out, HW.out⟩
    · have g3 : (op == 3) = false := by simp; omega
      have g9 : decide (9 < op) = false := by simp; omega
      have g1 : decide (op < 1) = false := by simp; omega
      rcases h with h | h
      · subst h
        have HX : Hid (arX 4 = 0) := by show _ = _; unfold arX; first | decide | (rw [if_neg (by omega), if_pos (by omega)])
        have HY : Hid (arT 4 = 2) := by show _ = _; unfold arT; first | decide | (rw [if_neg (by omega), if_neg (by omega), if_neg (by omega), if_pos (by omega)])
        by_cases hL : len = 0
        case neg =>
          have F := Lib.hid (HF.out false (by rw [HB.out, HX.out, show ((0 : Int) == (len : Nat)) = false by rw [beq_eq_false_iff_ne]; omega]; rfl))
          have t1 : ((len : Int) != 0) = true := by rw [bne_iff_ne]; omega
          clear hL
          go_enter Try.func50, Try.ntmps50
          go_wp2
          go_ret
          exact ⟨F.out, HW0.out⟩
        subst hL
        by_cases hL2 : len2 = 2
        case neg =>
          have F := Lib.hid (HF.out false (by rw [HB.out, HY.out, show ((2 : Int) == (len2 : Nat)) = false by rw [beq_eq_false_iff_ne]; omega]; simp))
          have t1 : ((len2 : Int) != 2) = true := by rw [bne_iff_ne]; omega
          clear hL2
          go_enter Try.func50, Try.ntmps50
          go_wp2
          go_ret
          exact ⟨F.out, HW0.out⟩
        subst hL2
        cases he : nm.toList with
        | cons c0 ct =>
          have he2 : nm.toList.isEmpty = false := by rw [he]; rfl
          have he3 : (!nm.toList.isEmpty) = true := by rw [he2]; rfl
          have F := Lib.hid (HF.out false (by rw [HB.out, he2, g2, g2']; simp))
          clear he
          go_enter Try.func50, Try.ntmps50
          go_wp2
          go_ret
          exact ⟨F.out, HW0.out⟩
        | nil =>
          have he2 : nm.toList.isEmpty = true := by rw [he]; rfl
          have F := Lib.hid (HF.out (C && D) (by rw [HB.out, HX.out, HY.out, he2, g2, g2']; simp))
          have W1 := HW0
          have BX1 := BX
          go_enter Try.func50, Try.ntmps50
          go_wp2_with fail
          generalize w.alloc (.cells #[.int .i64 4, .string nm, .slice a 0 cap, .slice a2 2 cap2] 35) = B1 at *
          go_loopw [5] (fun i wr => ∃ k : Nat, i = .int .i64 (k : Nat) ∧ k ≤ 0 ∧ Hid (Below w.heap.size w wr) ∧ Hid (Mem.Blk wr w.heap.size 35 #[.int .i64 4, .string nm, .slice a 0 cap, .slice a2 2 cap2]) ∧ Hid (∀ (j : Nat) y, j < k → exprs[j]? = some y → bE y = true)) (fun i _ => 0 - (intOf i).toNat)
          case atStart => exact ⟨0, rfl, Nat.zero_le _, W1.out, BX1.out, fun j y hj => absurd hj (Nat.not_lt_zero _)⟩
          case round =>
            clear W1 BX1
            obtain ⟨k, rfl, hk, HW, HXB, HP⟩ := hrel
            have c2 : wr.cell? ⟨w.heap.size, 2, none⟩ = some (.slice a 0 cap) := HXB.out.cell 2
            by_cases hlt : k < 0
            · obtain ⟨b, o, op', n', nm', args', a', len', cap', rfl, hb, hbx, hle, j1, j2, j3, hS', g0, g1, g2, g3⟩ := (HS.out.kept (Kept.of_below HW.out [])).at k hlt
              have HC := Lib.hid (rbuiltExpr_any (Ex.mk op' n' nm' args').rk _ (Nat.le_refl _) _ wr (RepE.mk' j1 j2 j3 hS'))
              have HLE := Lib.hid hle
              clear hle hS' j1 j2 j3
              generalize Ex.mk op' n' nm' args' = e' at *
              cases hp : bE e'
              · rw [hp] at HC
                have hC : C = false := HN.out k e' HLE.out hp
                have F2 : Hid (Ending.returned (.bool false) = .returned (.bool R)) := by show _ = _; rw [← F.out, hC]; rfl
                clear hp hC
                go_wp2_with fail
                all_goals
                  refine HC.out.mono ?_; rintro r w1 ⟨rfl, b1⟩
                  go_wp2
                  go_ret
                  exact ⟨F2.out, HW.out.trans (b1.mono HW.out.size)⟩
              · rw [hp] at HC
                have HP2 : Hid (∀ (j : Nat) y, j < k + 1 → exprs[j]? = some y → bE y = true) := by
                  intro j y hj hy
                  rcases Nat.lt_or_ge j k with h | h
                  · exact HP.out j y h hy
                  · obtain rfl : j = k := by omega
                    rw [HLE.out] at hy; injection hy with hy; subst hy; exact hp
                clear hp
                go_wp2_with fail
                all_goals
                  refine HC.out.mono ?_; rintro r w1 ⟨rfl, b1⟩
                  go_wp2
                  go_roundw
                  case rel => exact ⟨k + 1, by go_num, by omega, HW.out.trans (b1.mono HW.out.size), HXB.out.below b1, HP2⟩
                  case measure => simp [intOf]; omega
            · have hC : C = true := HT.out (fun j y hy => HP.out j y (by have := (List.getElem?_eq_some_iff.1 hy).1; have := HL.out; omega) hy)
              have F3 : Hid (∀ b, D = b → Ending.returned (.bool b) = .returned (.bool R)) := by
                intro b hb; rw [← F.out, hC, hb]; rfl
              have W2 := HW
              have B2 := HXB
              clear hC c2 HP HW HXB
              go_wp2_with fail
              go_loopw [6] (fun i wr => ∃ k : Nat, i = .int .i64 (k : Nat) ∧ k ≤ 2 ∧ Hid (Below w.heap.size w wr) ∧ Hid (Mem.Blk wr w.heap.size 35 #[.int .i64 4, .string nm, .slice a 0 cap, .slice a2 2 cap2]) ∧ Hid (∀ (j : Nat) y, j < k → terms[j]? = some y → bT y = true)) (fun i _ => 2 - (intOf i).toNat)
              case atStart => exact ⟨0, rfl, Nat.zero_le _, W2.out, B2.out, fun j y hj => absurd hj (Nat.not_lt_zero _)⟩
              case round =>
                clear W2 B2
                obtain ⟨k2, rfl, hk2, HW, HXB, HP⟩ := hrel
                have c3 : wr.cell? ⟨w.heap.size, 3, none⟩ = some (.slice a2 2 cap2) := HXB.out.cell 3
                by_cases hlt2 : k2 < 2
                · obtain ⟨b, o, op', nm', ex', te', a', len', cap', a3, len3, cap3, rfl, hb, hbx, hle, j1, j3, hS', hS3, g0, g1, g2, g3⟩ := (HS2.out.kept (Kept.of_below HW.out [])).at k2 hlt2
                  have HC := Lib.hid (HI.out k2 _ _ wr hle (RepT.mk' j1 j3 hS' hS3))
                  have HLE := Lib.hid hle
                  clear hle hS' hS3 j1 j3
                  generalize Te.mk op' nm' ex' te' = e' at *
                  cases hp : bT e'
                  · rw [hp] at HC
                    have F4 := Lib.hid (F3.out false (HN2.out k2 e' HLE.out hp))
                    clear hp
                    go_wp2_with fail
                    all_goals
                      refine HC.out.mono ?_; rintro r w1 ⟨rfl, b1⟩
                      go_wp2
                      go_ret
                      exact ⟨F4.out, HW.out.trans (b1.mono HW.out.size)⟩
                  · rw [hp] at HC
                    have HP2 : Hid (∀ (j : Nat) y, j < k2 + 1 → terms[j]? = some y → bT y = true) := by
                      intro j y hj hy
                      rcases Nat.lt_or_ge j k2 with h | h
                      · exact HP.out j y h hy
                      · obtain rfl : j = k2 := by omega
                        rw [HLE.out] at hy; injection hy with hy; subst hy; exact hp
                    clear hp
                    go_wp2_with fail
                    all_goals
                      refine HC.out.mono ?_; rintro r w1 ⟨rfl, b1⟩
                      go_wp2
                      go_roundw
                      case rel => exact ⟨k2 + 1, by go_num, by omega, HW.out.trans (b1.mono HW.out.size), HXB.out.below b1, HP2⟩
                      case measure => simp [intOf]; omega
                · have F4 := Lib.hid (F3.out true (HT2.out (fun j y hy => HP.out j y (by have := (List.getElem?_eq_some_iff.1 hy).1; have := HL2.out; omega) hy)))
                  go_wp2
                  go_ret
                  exact ⟨F4.out, HW.out⟩
      · subst h
        have HX : Hid (arX 5 = 0) := by show _ = _; unfold arX; first | decide | (rw [if_neg (by omega), if_pos (by omega)])
        have HY : Hid (arT 5 = 2) := by show _ = _; unfold arT; first | decide | (rw [if_neg (by omega), if_neg (by omega), if_neg (by omega), if_pos (by omega)])
        by_cases hL : len = 0
        case neg =>
          have F := Lib.hid (HF.out false (by rw [HB.out, HX.out, show ((0 : Int) == (len : Nat)) = false by rw [beq_eq_false_iff_ne]; omega]; rfl))
          have t1 : ((len : Int) != 0) = true := by rw [bne_iff_ne]; omega
          clear hL
          go_enter Try.func50, Try.ntmps50
          go_wp2
          go_ret
          exact ⟨F.out, HW0.out⟩
        subst hL
        by_cases hL2 : len2 = 2
        case neg =>
          have F := Lib.hid (HF.out false (by rw [HB.out, HY.out, show ((2 : Int) == (len2 : Nat)) = false by rw [beq_eq_false_iff_ne]; omega]; simp))
          have t1 : ((len2 : Int) != 2) = true := by rw [bne_iff_ne]; omega
          clear hL2
          go_enter Try.func50, Try.ntmps50
          go_wp2
          go_ret
          exact ⟨F.out, HW0.out⟩
        subst hL2
        cases he : nm.toList with
        | cons c0 ct =>
          have he2 : nm.toList.isEmpty = false := by rw [he]; rfl
          have he3 : (!nm.toList.isEmpty) = true := by rw [he2]; rfl
          have F := Lib.hid (HF.out false (by rw [HB.out, he2, g2, g2']; simp))
          clear he
          go_enter Try.func50, Try.ntmps50
          go_wp2
          go_ret
          exact ⟨F.out, HW0.out⟩
        | nil =>
          have he2 : nm.toList.isEmpty = true := by rw [he]; rfl
          have F := Lib.hid (HF.out (C && D) (by rw [HB.out, HX.out, HY.out, he2, g2, g2']; simp))
          have W1 := HW0
          have BX1 := BX
          go_enter Try.func50, Try.ntmps50
          go_wp2_with fail
          generalize w.alloc (.cells #[.int .i64 5, .string nm, .slice a 0 cap, .slice a2 2 cap2] 35) = B1 at *
          go_loopw [5] (fun i wr => ∃ k : Nat, i = .int .i64 (k : Nat) ∧ k ≤ 0 ∧ Hid (Below w.heap.size w wr) ∧ Hid (Mem.Blk wr w.heap.size 35 #[.int .i64 5, .string nm, .slice a 0 cap, .slice a2 2 cap2]) ∧ Hid (∀ (j : Nat) y, j < k → exprs[j]? = some y → bE y = true)) (fun i _ => 0 - (intOf i).toNat)
          case atStart => exact ⟨0, rfl, Nat.zero_le _, W1.out, BX1.out, fun j y hj => absurd hj (Nat.not_lt_zero _)⟩
          case round =>
            clear W1 BX1
            obtain ⟨k, rfl, hk, HW, HXB, HP⟩ := hrel
            have c2 : wr.cell? ⟨w.heap.size, 2, none⟩ = some (.slice a 0 cap) := HXB.out.cell 2
            by_cases hlt : k < 0
            · obtain ⟨b, o, op', n', nm', args', a', len', cap', rfl, hb, hbx, hle, j1, j2, j3, hS', g0, g1, g2, g3⟩ := (HS.out.kept (Kept.of_below HW.out [])).at k hlt
              have HC := Lib.hid (rbuiltExpr_any (Ex.mk op' n' nm' args').rk _ (Nat.le_refl _) _ wr (RepE.mk' j1 j2 j3 hS'))
              have HLE := Lib.hid hle
              clear hle hS' j1 j2 j3
              generalize Ex.mk op' n' nm' args' = e' at *
              cases hp : bE e'
              · rw [hp] at HC
                have hC : C = false := HN.out k e' HLE.out hp
                have F2 : Hid (Ending.returned (.bool false) = .returned (.bool R)) := by show _ = _; rw [← F.out, hC]; rfl
                clear hp hC
                go_wp2_with fail
                all_goals
                  refine HC.out.mono ?_; rintro r w1 ⟨rfl, b1⟩
                  go_wp2
                  go_ret
                  exact ⟨F2.out, HW.out.trans (b1.mono HW.out.size)⟩
              · rw [hp] at HC
                have HP2 : Hid (∀ (j : Nat) y, j < k + 1 → exprs[j]? = some y → bE y = true) := by
                  intro j y hj hy
                  rcases Nat.lt_or_ge j k with h | h
                  · exact HP.out j y h hy
                  · obtain rfl : j = k := by omega
                    rw [HLE.out] at hy; injection hy with hy; subst hy; exact hp
                clear hp
                go_wp2_with fail
                all_goals
                  refine HC.out.mono ?_; rintro r w1 ⟨rfl, b1⟩
                  go_wp2
                  go_roundw
                  case rel => exact ⟨k + 1, by go_num, by omega, HW.out.trans (b1.mono HW.out.size), HXB.out.below b1, HP2⟩
                  case measure => simp [intOf]; omega
            · have hC : C = true := HT.out (fun j y hy => HP.out j y (by have := (List.getElem?_eq_some_iff.1 hy).1; have := HL.out; omega) hy)
              have F3 : Hid (∀ b, D = b → Ending.returned (.bool b) = .returned (.bool R)) := by
                intro b hb; rw [← F.out, hC, hb]; rfl
              have W2 := HW
              have B2 := HXB
              clear hC c2 HP HW HXB
              go_wp2_with fail
              go_loopw [6] (fun i wr => ∃ k : Nat, i = .int .i64 (k : Nat) ∧ k ≤ 2 ∧ Hid (Below w.heap.size w wr) ∧ Hid (Mem.Blk wr w.heap.size 35 #[.int .i64 5, .string nm, .slice a 0 cap, .slice a2 2 cap2]) ∧ Hid (∀ (j : Nat) y, j < k → terms[j]? = some y → bT y = true)) (fun i _ => 2 - (intOf i).toNat)
              case atStart => exact ⟨0, rfl, Nat.zero_le _, W2.out, B2.out, fun j y hj => absurd hj (Nat.not_lt_zero _)⟩
              case round =>
                clear W2 B2
                obtain ⟨k2, rfl, hk2, HW, HXB, HP⟩ := hrel
                have c3 : wr.cell? ⟨w.heap.size, 3, none⟩ = some (.slice a2 2 cap2) := HXB.out.cell 3
                by_cases hlt2 : k2 < 2
                · obtain ⟨b, o, op', nm', ex', te', a', len', cap', a3, len3, cap3, rfl, hb, hbx, hle, j1, j3, hS', hS3, g0, g1, g2, g3⟩ := (HS2.out.kept (Kept.of_below HW.out [])).at k2 hlt2
                  have HC := Lib.hid (HI.out k2 _ _ wr hle (RepT.mk' j1 j3 hS' hS3))
                  have HLE := Lib.hid hle
                  clear hle hS' hS3 j1 j3
                  generalize Te.mk op' nm' ex' te' = e' at *
                  cases hp : bT e'
                  · rw [hp] at HC
                    have F4 := Lib.hid (F3.out false (HN2.out k2 e' HLE.out hp))
                    clear hp
                    go_wp2_with fail
                    all_goals
                      refine HC.out.mono ?_; rintro r w1 ⟨rfl, b1⟩
                      go_wp2
                      go_ret
                      exact ⟨F4.out, HW.out.trans (b1.mono HW.out.size)⟩
                  · rw [hp] at HC
                    have HP2 : Hid (∀ (j : Nat) y, j < k2 + 1 → terms[j]? = some y → bT y = true) := by
                      intro j y hj hy
                      rcases Nat.lt_or_ge j k2 with h | h
                      · exact HP.out j y h hy
                      · obtain rfl : j = k2 := by omega
                        rw [HLE.out] at hy; injection hy with hy; subst hy; exact hp
                    clear hp
                    go_wp2_with fail
                    all_goals
                      refine HC.out.mono ?_; rintro r w1 ⟨rfl, b1⟩
                      go_wp2
                      go_roundw
                      case rel => exact ⟨k2 + 1, by go_num, by omega, HW.out.trans (b1.mono HW.out.size), HXB.out.below b1, HP2⟩
                      case measure => simp [intOf]; omega
                · have F4 := Lib.hid (F3.out true (HT2.out (fun j y hy => HP.out j y (by have := (List.getElem?_eq_some_iff.1 hy).1; have := HL2.out; omega) hy)))
                  go_wp2
                  go_ret
                  exact ⟨F4.out, HW.out⟩
    · have g3 : (op == 3) = false := by simp; omega
      have g4 : (op == 4) = false := by simp; omega
      have g5 : (op == 5) = false := by simp; omega
      have HX : Hid (arX op = 1) := by show _ = _; unfold arX; first | decide | (rw [if_neg (by omega), if_pos (by omega)])
      have HY : Hid (arT op = 1) := by show _ = _; unfold arT; first | decide | (rw [if_neg (by omega), if_neg (by omega), if_neg (by omega), if_pos (by omega)])
      by_cases hL : len = 1
      case neg =>
        have F := Lib.hid (HF.out false (by rw [HB.out, HX.out, show ((1 : Int) == (len : Nat)) = false by rw [beq_eq_false_iff_ne]; omega]; rfl))
        have t1 : ((len : Int) != 1) = true := by rw [bne_iff_ne]; omega
        clear hL
        go_enter Try.func50, Try.ntmps50
        go_wp2
        go_ret
        exact ⟨F.out, HW0.out⟩
      subst hL
      by_cases hL2 : len2 = 1
      case neg =>
        have F := Lib.hid (HF.out false (by rw [HB.out, HY.out, show ((1 : Int) == (len2 : Nat)) = false by rw [beq_eq_false_iff_ne]; omega]; simp))
        have t1 : ((len2 : Int) != 1) = true := by rw [bne_iff_ne]; omega
        clear hL2
        go_enter Try.func50, Try.ntmps50
        go_wp2
        go_ret
        exact ⟨F.out, HW0.out⟩
      subst hL2
      cases he : nm.toList with
      | cons c0 ct =>
        have he2 : nm.toList.isEmpty = false := by rw [he]; rfl
        have he3 : (!nm.toList.isEmpty) = true := by rw [he2]; rfl
        have F := Lib.hid (HF.out false (by rw [HB.out, he2, g2, g2']; simp))
        clear he
        go_enter Try.func50, Try.ntmps50
        go_wp2
        go_ret
        exact ⟨F.out, HW0.out⟩
      | nil =>
        have he2 : nm.toList.isEmpty = true := by rw [he]; rfl
        have F := Lib.hid (HF.out (C && D) (by rw [HB.out, HX.out, HY.out, he2, g2, g2']; simp))
        have W1 := HW0
        have BX1 := BX
        go_enter Try.func50, Try.ntmps50
        go_wp2_with fail
        generalize w.alloc (.cells #[.int .i64 op, .string nm, .slice a 1 cap, .slice a2 1 cap2] 35) = B1 at *
        go_loopw [5] (fun i wr => ∃ k : Nat, i = .int .i64 (k : Nat) ∧ k ≤ 1 ∧ Hid (Below w.heap.size w wr) ∧ Hid (Mem.Blk wr w.heap.size 35 #[.int .i64 op, .string nm, .slice a 1 cap, .slice a2 1 cap2]) ∧ Hid (∀ (j : Nat) y, j < k → exprs[j]? = some y → bE y = true)) (fun i _ => 1 - (intOf i).toNat)
        case atStart => exact ⟨0, rfl, Nat.zero_le _, W1.out, BX1.out, fun j y hj => absurd hj (Nat.not_lt_zero _)⟩
        case round =>
          clear W1 BX1
          obtain ⟨k, rfl, hk, HW, HXB, HP⟩ := hrel
          have c2 : wr.cell? ⟨w.heap.size, 2, none⟩ = some (.slice a 1 cap) := HXB.out.cell 2
          by_cases hlt : k < 1
          · obtain ⟨b, o, op', n', nm', args', a', len', cap', rfl, hb, hbx, hle, j1, j2, j3, hS', g0, g1, g2, g3⟩ := (HS.out.kept (Kept.of_below HW.out [])).at k hlt
            have HC := Lib.hid (rbuiltExpr_any (Ex.mk op' n' nm' args').rk _ (Nat.le_refl _) _ wr (RepE.mk' j1 j2 j3 hS'))
            have HLE := Lib.hid hle
            clear hle hS' j1 j2 j3
            generalize Ex.mk op' n' nm' args' = e' at *
            cases hp : bE e'
            · rw [hp] at HC
              have hC : C = false := HN.out k e' HLE.out hp
              have F2 : Hid (Ending.returned (.bool false) = .returned (.bool R)) := by show _ = _; rw [← F.out, hC]; rfl
              clear hp hC
              go_wp2_with fail
              all_goals
                refine HC.out.mono ?_; rintro r w1 ⟨rfl, b1⟩
                go_wp2
                go_ret
                exact ⟨F2.out, HW.out.trans (b1.mono HW.out.size)⟩
            · rw [hp] at HC
              have HP2 : Hid (∀ (j : Nat) y, j < k + 1 → exprs[j]? = some y → bE y = true) := by
                intro j y hj hy
                rcases Nat.lt_or_ge j k with h | h
                · exact HP.out j y h hy
                · obtain rfl : j = k := by omega
                  rw [HLE.out] at hy; injection hy with hy; subst hy; exact hp
              clear hp
              go_wp2_with fail
              all_goals
                refine HC.out.mono ?_; rintro r w1 ⟨rfl, b1⟩
                go_wp2
                go_roundw
                case rel => exact ⟨k + 1, by go_num, by omega, HW.out.trans (b1.mono HW.out.size), HXB.out.below b1, HP2⟩
                case measure => simp [intOf]; omega
          · have hC : C = true := HT.out (fun j y hy => HP.out j y (by have := (List.getElem?_eq_some_iff.1 hy).1; have := HL.out; omega) hy)
            have F3 : Hid (∀ b, D = b → Ending.returned (.bool b) = .returned (.bool R)) := by
              intro b hb; rw [← F.out, hC, hb]; rfl
            have W2 := HW
            have B2 := HXB
            clear hC c2 HP HW HXB
            go_wp2_with fail
            go_loopw [6] (fun i wr => ∃ k : Nat, i = .int .i64 (k : Nat) ∧ k ≤ 1 ∧ Hid (Below w.heap.size w wr) ∧ Hid (Mem.Blk wr w.heap.size 35 #[.int .i64 op, .string nm, .slice a 1 cap, .slice a2 1 cap2]) ∧ Hid (∀ (j : Nat) y, j < k → terms[j]? = some y → bT y = true)) (fun i _ => 1 - (intOf i).toNat)
            case atStart => exact ⟨0, rfl, Nat.zero_le _, W2.out, B2.out, fun j y hj => absurd hj (Nat.not_lt_zero _)⟩
            case round =>
              clear W2 B2
              obtain ⟨k2, rfl, hk2, HW, HXB, HP⟩ := hrel
              have c3 : wr.cell? ⟨w.heap.size, 3, none⟩ = some (.slice a2 1 cap2) := HXB.out.cell 3
              by_cases hlt2 : k2 < 1
              · obtain ⟨b, o, op', nm', ex', te', a', len', cap', a3, len3, cap3, rfl, hb, hbx, hle, j1, j3, hS', hS3, g0, g1, g2, g3⟩ := (HS2.out.kept (Kept.of_below HW.out [])).at k2 hlt2
                have HC := Lib.hid (HI.out k2 _ _ wr hle (RepT.mk' j1 j3 hS' hS3))
                have HLE := Lib.hid hle
                clear hle hS' hS3 j1 j3
                generalize Te.mk op' nm' ex' te' = e' at *
                cases hp : bT e'
                · rw [hp] at HC
                  have F4 := Lib.hid (F3.out false (HN2.out k2 e' HLE.out hp))
                  clear hp
                  go_wp2_with fail
                  all_goals
                    refine HC.out.mono ?_; rintro r w1 ⟨rfl, b1⟩
                    go_wp2
                    go_ret
                    exact ⟨F4.out, HW.out.trans (b1.mono HW.out.size)⟩
                · rw [hp] at HC
                  have HP2 : Hid (∀ (j : Nat) y, j < k2 + 1 → terms[j]? = some y → bT y = true) := by
                    intro j y hj hy
                    rcases Nat.lt_or_ge j k2 with h | h
                    · exact HP.out j y h hy
                    · obtain rfl : j = k2 := by omega
                      rw [HLE.out] at hy; injection hy with hy; subst hy; exact hp
                  clear hp
                  go_wp2_with fail
                  all_goals
                    refine HC.out.mono ?_; rintro r w1 ⟨rfl, b1⟩
                    go_wp2
                    go_roundw
                    case rel => exact ⟨k2 + 1, by go_num, by omega, HW.out.trans (b1.mono HW.out.size), HXB.out.below b1, HP2⟩
                    case measure => simp [intOf]; omega
              · have F4 := Lib.hid (F3.out true (HT2.out (fun j y hy => HP.out j y (by have := (List.getElem?_eq_some_iff.1 hy).1; have := HL2.out; omega) hy)))
                go_wp2
                go_ret
                exact ⟨F4.out, HW.out⟩
end Go.Proofs.Ytppnmeobnilojaa

/- The contract of a built tree's Right; condition: the term is not more than 999 deep. -/
namespace Go.Proofs.Ytppnmeobnilojaa
set_option linter.unusedVariables false
set_option linter.unusedSimpArgs false
open Go.RowKit
theorem rT_parts (t : Te) (hr : t.rk < 1000) : rT t = (decide (ndI t.nd ≤ 200) && decide (rkI t.nd t.rk ≤ 16) && bT t) := by
  have : rT t = (decide (t.nd ≤ 200 ∧ t.rk ≤ 16) && bT t) := rfl
  rw [this]
  congr 1
  rw [Bool.eq_iff_iff]
  simp only [Bool.and_eq_true, decide_eq_true_eq]
  unfold ndI rkI
  by_cases h : t.nd < 1000
  · rw [if_pos h, if_pos h]; omega
  · rw [if_neg h, if_neg h]; omega
set_option maxRecDepth 100000 in
set_option maxHeartbeats 1000000 in
theorem treeRight_any {w : World} {es : List Ex} {ts : List Te} {cs : List Value} (h : TreeIs w [] es ts cs) (i : Nat) {t : Te} (ht : ts[i]? = some t) (hr : t.rk < 1000) :
    Calls Try.prog 18 #[.agg cs.toArray, .int .i64 (i : Nat)] w fun x w' => x = .returned (.bool (rT t)) ∧ Below w.heap.size w w' := by
  have hit : i < ts.length := (List.getElem?_eq_some_iff.1 ht).1
  obtain ⟨aE, cE, aN, cN, aD, cD, aT, cT, aM, cM, aP, cP, rfl, h1, h2, h3, h4, h5, h6⟩ := h
  have hlM : (ndsT ts).length = ts.length := by unfold ndsT; rw [List.length_map]
  have hlP : (rksT ts).length = ts.length := by unfold rksT; rw [List.length_map]
  obtain ⟨bm, om, xm, cm, rfl, hbm, -, hxm, ⟨rfl, -⟩, -, hcm⟩ := h5.at i (by omega)
  obtain ⟨bp, op, xp, cp, rfl, hbp, -, hxp, ⟨rfl, -⟩, -, hcp⟩ := h6.at i (by omega)
  obtain ⟨bt, ot, xt, ct, rfl, hbt, -, hxt, hRt, -, hct⟩ := h4.at i hit
  obtain rfl : xm = ndI t.nd := by
    unfold ndsT at hxm
    rw [List.getElem?_map, ht] at hxm
    injection hxm with h; exact h.symm
  obtain rfl : xp = rkI t.nd t.rk := by
    unfold rksT at hxp
    rw [List.getElem?_map, ht] at hxp
    injection hxp with h; exact h.symm
  obtain rfl : t = xt := by rw [ht] at hxt; injection hxt
  have HRT := Lib.hid (rT_parts t hr)
  have HW0 := Lib.hid ((Below.refl w.heap.size w).alloc (Nat.le_refl _) (.cells #[.slice aE es.length cE, .slice aN (nds es).length cN, .slice aD (rks es).length cD, .slice (some ⟨bt, ot, none⟩) ts.length cT, .slice (some ⟨bm, om, none⟩) (ndsT ts).length cM, .slice (some ⟨bp, op, none⟩) (rksT ts).length cP] 30))
  have BX := Mem.Blk.new w 30 #[.slice aE es.length cE, .slice aN (nds es).length cN, .slice aD (rks es).length cD, .slice (some ⟨bt, ot, none⟩) ts.length cT, .slice (some ⟨bm, om, none⟩) (ndsT ts).length cM, .slice (some ⟨bp, op, none⟩) (rksT ts).length cP]
  have HC : Hid (∀ W, Below w.heap.size w W → Calls Try.prog 50 #[.agg ct.toArray] W fun x w' => x = .returned (.bool (bT t)) ∧ Below W.heap.size W w') := fun W hW => rbuilt_any t.rk t (Nat.le_refl _) ct W (RepT.kept hRt (Kept.of_below hW []))
  obtain ⟨o5, e5, x5, t5, p5, l5, r5, p6, l6, r6, -, rfl, -⟩ := hRt.inv
  have s3 := Lib.hid (BX.cell 3)
  have s4 := Lib.hid (BX.cell 4)
  have s5 := Lib.hid (BX.cell 5)
  have g0 := Lib.hid (cell_up (show w.cell? ⟨bm, om + i, none⟩ = some (.int .i64 (ndI t.nd)) by have := hcm 0 _ rfl; simpa [i64K] using this) HW0.out)
  have g1 := Lib.hid (cell_up (show w.cell? ⟨bp, op + i, none⟩ = some (.int .i64 (rkI t.nd t.rk)) by have := hcp 0 _ rfl; simpa [i64K] using this) HW0.out)
  have v0 := Lib.hid (cell_up (show w.cell? ⟨bt, ot + i * 4, none⟩ = some (.int .i64 o5) from hct 0 _ rfl) HW0.out)
  have v1 := Lib.hid (cell_up (show w.cell? ⟨bt, ot + i * 4 + 1, none⟩ = some (.string e5) from hct 1 _ rfl) HW0.out)
  have v2 := Lib.hid (cell_up (show w.cell? ⟨bt, ot + i * 4 + 2, none⟩ = some (.slice p5 l5 r5) from hct 2 _ rfl) HW0.out)
  have v3 := Lib.hid (cell_up (show w.cell? ⟨bt, ot + i * 4 + 3, none⟩ = some (.slice p6 l6 r6) from hct 3 _ rfl) HW0.out)
  have i0 : (0 : Int) ≤ (i : Int) := by omega
  have i1 : (i : Int) < (ts.length : Int) := by omega
  have i2 : (i : Int) < ((ndsT ts).length : Int) := by omega
  have i3 : (i : Int) < ((rksT ts).length : Int) := by omega
  have n1 := ndI_bd t.nd
  have n2 := rkI_bd t.nd t.rk hr
  clear hcm hcp hct hRt BX h1 h2 h3 h4 h5 h6 hxm hxp ht hr hlM hlP hxt hbm hbp hbt hit
  generalize ndI t.nd = a at *
  generalize rkI t.nd t.rk = b at *
  rw [HRT.out]
  generalize (ndsT ts).length = lM at *
  generalize (rksT ts).length = lP at *
  by_cases ha : a ≤ 200
  · by_cases hb : b ≤ 16
    · have e1 : (decide (a ≤ 200) && decide (b ≤ 16) && bT t) = bT t := by simp [ha, hb]
      rw [e1]
      go_enter Try.func18, Try.ntmps18
      go_upto_region 1 with (fail)
      generalize w.alloc (.cells #[.slice aE es.length cE, .slice aN (nds es).length cN, .slice aD (rks es).length cD, .slice (some ⟨bt, ot, none⟩) ts.length cT, .slice (some ⟨bm, om, none⟩) lM cM, .slice (some ⟨bp, op, none⟩) lP cP] 30) = v at *
      have s3' := s3.out
      have s4' := s4.out
      have s5' := s5.out
      have g0' := g0.out
      have g1' := g1.out
      have v0' := v0.out
      have v1' := v1.out
      have v2' := v2.out
      have v3' := v3.out
      simp only [List.getElem?_toArray, List.getElem?_cons_zero, List.getElem?_cons_succ] at s3' s4' s5'
      clear s3 s4 s5 g0 g1 v0 v1 v2 v3
      go_wp2_with fail
      go_at_call 50
      (with_reducible refine (HC.out v HW0.out).mono ?_)
      rintro y w1 ⟨rfl, b1⟩
      have HW1 := Lib.hid (HW0.out.trans (b1.mono HW0.out.size))
      clear b1
      go_wp2_with fail
      go_ret
      exact ⟨rfl, HW1.out⟩
    · have e1 : (decide (a ≤ 200) && decide (b ≤ 16) && bT t) = false := by simp [hb]
      rw [e1]
      go_enter Try.func18, Try.ntmps18
      go_upto_region 1 with (fail)
      generalize w.alloc (.cells #[.slice aE es.length cE, .slice aN (nds es).length cN, .slice aD (rks es).length cD, .slice (some ⟨bt, ot, none⟩) ts.length cT, .slice (some ⟨bm, om, none⟩) lM cM, .slice (some ⟨bp, op, none⟩) lP cP] 30) = v at *
      have s3' := s3.out
      have s4' := s4.out
      have s5' := s5.out
      have g0' := g0.out
      have g1' := g1.out
      have v0' := v0.out
      have v1' := v1.out
      have v2' := v2.out
      have v3' := v3.out
      simp only [List.getElem?_toArray, List.getElem?_cons_zero, List.getElem?_cons_succ] at s3' s4' s5'
      clear s3 s4 s5 g0 g1 v0 v1 v2 v3
      go_wp2_with fail
      go_ret
      exact ⟨rfl, HW0.out⟩
  · have e1 : (decide (a ≤ 200) && decide (b ≤ 16) && bT t) = false := by simp [ha]
    rw [e1]
    go_enter Try.func18, Try.ntmps18
    go_upto_region 1 with (fail)
    generalize w.alloc (.cells #[.slice aE es.length cE, .slice aN (nds es).length cN, .slice aD (rks es).length cD, .slice (some ⟨bt, ot, none⟩) ts.length cT, .slice (some ⟨bm, om, none⟩) lM cM, .slice (some ⟨bp, op, none⟩) lP cP] 30) = v at *
    have s3' := s3.out
    have s4' := s4.out
    have s5' := s5.out
    have g0' := g0.out
    have g1' := g1.out
    have v0' := v0.out
    have v1' := v1.out
    have v2' := v2.out
    have v3' := v3.out
    simp only [List.getElem?_toArray, List.getElem?_cons_zero, List.getElem?_cons_succ] at s3' s4' s5'
    clear s3 s4 s5 g0 g1 v0 v1 v2 v3
    go_wp2_with fail
    go_ret
    exact ⟨rfl, HW0.out⟩
end Go.Proofs.Ytppnmeobnilojaa

/- The contracts of ref21.all, ref21.Kind, check.Kind, Tree.RightExpr, SizeExpr; condition: built trees, not more than 999 deep. -/
namespace Go.Proofs.Ytppnmeobnilojaa
set_option linter.unusedVariables false
set_option linter.unusedSimpArgs false
open Go.RowKit
theorem all_no {l : List Int} {j : Nat} {x k : Int} (hx : l[j]? = some x) (hne : x ≠ k) : l.all (fun x => decide (x = k)) = false := by
  rw [List.all_eq_false]
  exact ⟨x, List.mem_of_getElem? hx, by simpa using hne⟩
theorem all_yes {l : List Int} {k : Int} (h : ∀ (j : Nat) x, l[j]? = some x → x = k) : l.all (fun x => decide (x = k)) = true := by
  rw [List.all_eq_true]
  intro x hx
  obtain ⟨j, hj⟩ := List.getElem?_of_mem hx
  simpa using h j x hj
theorem all_any (l : List Int) (a : Option Addr) (len cap : Nat) (q : Int) (w : World) (hS : SlR i64K w [] l a len cap) :
    Calls Try.prog 59 #[.slice a len cap, .int .i64 q] w fun e w' => e = .returned (.bool (l.all (fun x => decide (x = q)))) ∧ w = w' := by
  obtain ⟨f1, f2, f3⟩ := hS.facts
  have HNO := Lib.hid (fun (j : Nat) x (hx : l[j]? = some x) (hne : x ≠ q) => all_no hx hne)
  have HYES := Lib.hid (fun (h : ∀ (j : Nat) x, l[j]? = some x → x = q) => all_yes h)
  generalize l.all (fun x => decide (x = q)) = R at *
  have HSS := Lib.hid hS
  have HL := Lib.hid f1
  clear hS f1
  go_enter Try.func59, Try.ntmps59
  go_wp2_with fail
  go_loopw [5] (fun i wr => ∃ k : Nat, i = .int .i64 (k : Nat) ∧ k ≤ len ∧ Hid (w = wr) ∧ Hid (∀ (j : Nat) x, j < k → l[j]? = some x → x = q)) (fun i _ => len - (intOf i).toNat)
  case atStart => exact ⟨0, rfl, Nat.zero_le _, by first | exact Lib.hid trivial | exact Lib.hid rfl, fun j x h => by omega⟩
  case round =>
    obtain ⟨k, rfl, hk, HW, HP⟩ := hrel
    obtain rfl := HW.out
    clear HW
    by_cases hlt : k < len
    · obtain ⟨b, o, x, cs, rfl, -, -, hx, ⟨rfl, -⟩, -, hc⟩ := HSS.out.at k hlt
      have c0 : w.cell? ⟨b, o + k, none⟩ = some (.int .i64 x) := by have := hc 0 _ rfl; simpa [i64K] using this
      have j1' : (k : Int) < (len : Int) := by omega
      have j0' : (0 : Int) ≤ (k : Int) := by omega
      have HX := Lib.hid hx
      clear hc hx
      by_cases hxq : x = q
      · subst hxq
        have FIN : Hid (∀ (j : Nat) y, j < k + 1 → l[j]? = some y → y = x) := fun j y hj hy => by
          rcases Nat.eq_or_lt_of_le (Nat.le_of_lt_succ hj) with rfl | h
          · rw [HX.out] at hy; injection hy with hy; exact hy.symm
          · exact HP.out j y h hy
        clear HP HNO HYES HX
        go_wp2_with fail
        go_roundw
        case rel => exact ⟨k + 1, by go_num, by omega, by first | exact Lib.hid trivial | exact Lib.hid rfl, FIN⟩
        case measure => simp [intOf]; omega
      · have hR := HNO.out k x HX.out hxq
        have hxq' : (x == q) = false := beq_eq_false_iff_ne.2 hxq
        clear HP HNO HYES HX
        subst hR
        go_wp2_with fail
        go_ret
        exact ⟨rfl, rfl⟩
    · have hk' : ¬ (k : Int) < (len : Int) := by omega
      have hR := HYES.out (fun j x hx => HP.out j x (by have h1 := (List.getElem?_eq_some_iff.1 hx).1; have h2 := HL.out; omega) hx)
      clear HP HNO HYES
      subst hR
      go_wp2_with fail
      go_ret
      exact ⟨rfl, rfl⟩
def kI (e : Ex) : Int := if rE e then kE e else 0
theorem kindX_any (e : Ex) (cs : List Value) (w : World) (hR : RepE w [] e cs) (hk : e.rk ≤ 1000) :
    Calls Try.prog 23 #[.agg cs.toArray] w fun x w' => x = .returned (.tuple #[.int .i64 (kI e), .bool (kI e != 0)]) ∧ Below w.heap.size w w' := by
  have HI : Hid (kI e = if rE e then kE e else 0) := rfl
  have HB := Lib.hid (show rE e = true → bE e = true from fun h => by unfold rE at h; rw [Bool.and_eq_true] at h; exact h.2)
  have HC := Lib.hid (fun W (hW : Below w.heap.size w W) => rightExpr_any e cs W (hR.kept (Kept.of_below hW [])) hk)
  have HK := Lib.hid (fun W (hW : Below w.heap.size w W) (hb : bE e = true) => kind_any e.rk e (Nat.le_refl _) hb cs W (hR.kept (Kept.of_below hW [])))
  obtain ⟨op, no, nm, args, a, len, cap, rfl, rfl, i1, i2, i3, hS⟩ := hR.inv
  have HB0 := Lib.hid ((Below.refl w.heap.size w).alloc (Nat.le_refl _) (.cells #[.int .i64 op, .int .i64 no, .string nm, .slice a len cap] 46))
  have BX := Lib.hid (Mem.Blk.new w 46 #[.int .i64 op, .int .i64 no, .string nm, .slice a len cap])
  clear i1 i2 i3 hS hR hk
  generalize (Ex.mk op no nm args) = e at *
  by_cases hr : rE e = true
  · have hK := HK
    rw [hr, if_pos rfl] at HI
    have hb := HB.out hr
    have HK := Lib.hid (fun W hW => hK.out W hW hb)
    rw [hr] at HC
    rw [HI.out]
    clear hK hr hb HB HI
    generalize kE e = ke at *
    go_enter Try.func23, Try.ntmps23
    go_upto_region 1 with (fail)
    generalize w.alloc (.cells #[.int .i64 op, .int .i64 no, .string nm, .slice a len cap] 46) = v at *
    obtain ⟨c0, c1, c2, c3, -, -, -, -⟩ := blk4 BX.out
    go_wp2_with fail
    go_at_call 33
    (with_reducible refine (HC.out _ HB0.out).mono ?_)
    rintro y w1 ⟨rfl, b1⟩
    have HB1 := Lib.hid (HB0.out.trans (b1.mono HB0.out.size))
    have c0' := cell_up c0 b1
    have c1' := cell_up c1 b1
    have c2' := cell_up c2 b1
    have c3' := cell_up c3 b1
    clear c0 c1 c2 c3
    go_wp2_with fail
    go_at_call 57
    (with_reducible refine (HK.out _ HB1.out).mono ?_)
    rintro y w2 ⟨rfl, b2⟩
    have HB2 := Lib.hid (HB1.out.trans (b2.mono HB1.out.size))
    clear c0' c1' c2' c3' b1 b2
    go_wp2_with fail
    go_ret2
    exact ⟨rfl, HB2.out⟩
  · have hr' : rE e = false := by simpa using hr
    rw [hr'] at HC HI
    rw [if_neg (by decide)] at HI
    rw [HI.out]
    clear hr hr' HB HI HK
    go_enter Try.func23, Try.ntmps23
    go_upto_region 1 with (fail)
    generalize w.alloc (.cells #[.int .i64 op, .int .i64 no, .string nm, .slice a len cap] 46) = v at *
    obtain ⟨c0, c1, c2, c3, -, -, -, -⟩ := blk4 BX.out
    go_wp2_with fail
    go_at_call 33
    (with_reducible refine (HC.out _ HB0.out).mono ?_)
    rintro y w1 ⟨rfl, b1⟩
    have HB1 := Lib.hid (HB0.out.trans (b1.mono HB0.out.size))
    clear c0 c1 c2 c3
    go_wp2_with fail
    go_ret2
    exact ⟨rfl, HB1.out⟩
theorem sizeX_any (e : Ex) (cs : List Value) (w : World) (hR : RepE w [] e cs) (hk : e.rk < 1000) :
    Calls Try.prog 32 #[.agg cs.toArray] w fun x w' => x = .returned (.tuple #[.int .i64 (if e.nd < 1000 then (e.nd : Int) else 1000), .int .i64 (if e.nd < 1000 then (e.rk : Int) else 1000)]) ∧ Below w.heap.size w w' := by
  have HS := Lib.hid (fun W hW => sizeExpr_any e.rk e (Nat.le_refl _) cs 0 W (hR.kept hW) (by omega) (by omega))
  have HT := Lib.hid (fun x d (h : St e.nd e.rk x d) => h.told hk)
  obtain ⟨op, no, nm, args, a, len, cap, rfl, rfl, i1, i2, i3, hS⟩ := hR.inv
  have hk0 := Lib.hid (Kept.alloc w (.cells #[.int .i64 op, .int .i64 no, .string nm, .slice a len cap] 46) [])
  have HW0 := Lib.hid ((Below.refl w.heap.size w).alloc (Nat.le_refl _) (.cells #[.int .i64 op, .int .i64 no, .string nm, .slice a len cap] 46))
  generalize (Ex.mk op no nm args).nd = ND at *
  generalize (Ex.mk op no nm args).rk = RK at *
  generalize (if ND < 1000 then (ND : Int) else 1000) = U at *
  generalize (if ND < 1000 then (RK : Int) else 1000) = V at *
  clear hR hk i1 i2 i3 hS
  go_enter Try.func32, Try.ntmps32
  go_wp2_with fail
  refine (HS.out _ hk0.out).mono ?_; rintro x w1 ⟨hx, b1⟩
  obtain ⟨x, d, rfl, hst⟩ := hx.st
  have E := Lib.hid (HT.out x d hst)
  clear hst hx
  go_wp2_with fail
  refine (told_size_any _ _ _).mono ?_; rintro x w2 ⟨rfl, b2⟩
  rw [E.out.1, E.out.2]
  go_wp2
  go_ret2
  exact ⟨rfl, (HW0.out.trans (b1.mono HW0.out.size)).trans (b2.mono (HW0.out.trans (b1.mono HW0.out.size)).size)⟩
end Go.Proofs.Ytppnmeobnilojaa

/- What fits, and the first fault, by the program and by the document: plain. -/
namespace Go.Proofs.Ytppnmeobnilojaa
set_option linter.unusedVariables false
set_option linter.unusedSimpArgs false
open Go.RowKit
theorem all_kinds {op : Int} {l : List Int} (ha : ar op = (l.length : Nat)) (h : kOf op l ≠ 0) (h0 : ∀ k ∈ l, k = 0 ∨ k = 1 ∨ k = 2) : ∀ k ∈ l, k ≠ 0 := by
  obtain ⟨h1, h2⟩ := ar_op (by omega : 0 ≤ ar op)
  unfold kOf at h
  by_cases h21 : op = 21
  · rw [if_pos h21] at h
    have hl : l.length = 3 := by subst h21; rw [show ar 21 = 3 by decide] at ha; omega
    obtain ⟨a, b, c, rfl⟩ : ∃ a b c, l = [a, b, c] := by
      match l, hl with
      | [a, b, c], _ => exact ⟨a, b, c, rfl⟩
    simp at h
    intro k hk
    simp at hk
    obtain ⟨⟨e1, e2⟩, e3⟩ := h
    rcases hk with rfl | rfl | rfl <;> omega
  · rw [if_neg h21] at h
    by_cases h4 : op ≤ 4
    · have hl : l = [] := List.length_eq_zero_iff.1 (by rw [ar_nil h1 h4] at ha; omega)
      subst hl
      intro k hk; cases hk
    · by_cases hall : l.all (fun k => decide (k = needK op)) = true
      · intro k hk
        have := List.all_eq_true.1 hall k hk
        rw [decide_eq_true_eq] at this
        subst this
        unfold needK
        repeat' split
        all_goals omega
      · rw [if_neg hall] at h
        exact absurd rfl h
theorem kid_kinds {op n : Int} {nm : ByteArray} {l : List Ex} (hb : bE (.mk op n nm l) = true) (h : kE (.mk op n nm l) ≠ 0) : ∀ c ∈ l, kE c ≠ 0 := by
  obtain ⟨h1, -, -⟩ := bE_inv hb
  rw [kE_mk] at h
  intro c hc
  exact all_kinds (by rw [List.length_map]; exact h1) h (fun k hk => by obtain ⟨e, _, rfl⟩ := List.mem_map.1 hk; exact kE_bd _ e (Nat.le_refl _)) _ (List.mem_map.2 ⟨c, hc, rfl⟩)
/-- The path of the first expression that has no kind though all within have. -/
def faultE : Ex → Option (List Int)
  | .mk op _ _ l => if kOf op (l.map kE) ≠ 0 then none else some (go 0 l)
  where go : Nat → List Ex → List Int
  | _, [] => []
  | i, e :: t => match faultE e with | some p => (i : Int) :: p | none => go (i + 1) t
theorem faultE_none {e : Ex} : faultE e = none ↔ kE e ≠ 0 := by
  obtain ⟨op, n, nm, l⟩ := e
  rw [faultE, kE_mk]
  by_cases h : kOf op (l.map kE) = 0
  · simp [h]
  · simp [h]
def lessP : List Int → List Int → Bool
  | [], [] => false
  | [], _ :: _ => true
  | _ :: _, [] => false
  | a :: s, b :: t => if a ≠ b then decide (a < b) else lessP s t
def bet (a b : Option (List Int)) : Option (List Int) :=
  match a, b with
  | none, b => b
  | some a, none => some a
  | some a, some b => if lessP b a = true then some b else some a
theorem lessP_app (p x y : List Int) : lessP (p ++ x) (p ++ y) = lessP x y := by
  induction p with
  | nil => rfl
  | cons a t ih => simp [lessP, ih]
theorem lessP_gt {i j : Int} (h : i < j) (x y : List Int) : lessP (j :: x) (i :: y) = false := by
  have : j ≠ i := by omega
  simp [lessP, this]; omega
theorem lessP_cons_nil (a : Int) (x : List Int) : lessP (a :: x) [] = false := rfl
/-- A candidate behind place i' does not come ahead of one at i'. -/
theorem bet_keep {p : List Int} {i j : Int} (h : i < j) (x y : List Int) : bet (some (p ++ i :: y)) (some (p ++ j :: x)) = some (p ++ i :: y) := by
  simp [bet, lessP_app, lessP_gt h]
theorem bet_none (a : Option (List Int)) : bet a none = a := by cases a <;> rfl
/-- The document's: the least path of all. -/
def refE : Ex → List Int → Option (List Int)
  | .mk op _ _ l, p => if kOf op (l.map kE) = 0 ∧ (∀ c ∈ l, kE c ≠ 0) then bet (go p 0 none l) (some p) else go p 0 none l
  where go (p : List Int) : Nat → Option (List Int) → List Ex → Option (List Int)
  | _, b, [] => b
  | i, b, e :: t => go p (i + 1) (bet b (refE e (p ++ [(i : Int)]))) t
theorem refE_stays {p : List Int} : ∀ (l : List Ex) (i : Nat) (i' : Int) (q : List Int), (∀ c ∈ l, ∀ P, refE c P = (faultE c).map (P ++ ·)) → i' < (i : Int) → refE.go p i (some (p ++ i' :: q)) l = some (p ++ i' :: q)
  | [], _, _, _, _, _ => rfl
  | e :: t, i, i', q, h, hi => by
    rw [refE.go, h e (by simp)]
    cases hf : faultE e with
    | none => rw [Option.map_none, bet_none]; exact refE_stays t (i + 1) i' q (fun c hc => h c (by simp [hc])) (by omega)
    | some r =>
      rw [Option.map_some, List.append_assoc, List.singleton_append, bet_keep hi]
      exact refE_stays t (i + 1) i' q (fun c hc => h c (by simp [hc])) (by omega)
theorem refE_go {p : List Int} : ∀ (l : List Ex) (i : Nat), (∀ c ∈ l, ∀ P, refE c P = (faultE c).map (P ++ ·)) →
    refE.go p i none l = if l.any (fun c => (faultE c).isSome) then some (p ++ faultE.go i l) else none
  | [], i, _ => by simp [refE.go]
  | e :: t, i, h => by
    rw [refE.go, h e (by simp)]
    cases hf : faultE e with
    | none =>
      rw [Option.map_none, show bet none none = none from rfl, refE_go t (i + 1) (fun c hc => h c (by simp [hc]))]
      simp [hf, faultE.go]
    | some r =>
      rw [Option.map_some, List.append_assoc, List.singleton_append, show bet none (some (p ++ (i : Int) :: r)) = some (p ++ (i : Int) :: r) from rfl, refE_stays t (i + 1) i r (fun c hc => h c (by simp [hc])) (by omega)]
      simp [hf, faultE.go]
theorem faultE_go_nil {l : List Ex} (h : ∀ c ∈ l, faultE c = none) (i : Nat) : faultE.go i l = [] := by
  induction l generalizing i with
  | nil => rfl
  | cons e t ih => rw [faultE.go, h e (by simp)]; exact ih (fun c hc => h c (by simp [hc])) (i + 1)
theorem refE_eq : ∀ (r : Nat) (e : Ex), e.rk ≤ r → bE e = true → ∀ P, refE e P = (faultE e).map (P ++ ·) := by
  intro r
  induction r with
  | zero => intro e h; have := e.rk_pos; omega
  | succ r ih =>
    intro e hr hb P
    obtain ⟨op, n, nm, l⟩ := e
    obtain ⟨h1, -, h3⟩ := bE_inv hb
    have hih : ∀ c ∈ l, ∀ P, refE c P = (faultE c).map (P ++ ·) := by
      intro c hc P
      obtain ⟨k, hk⟩ := List.getElem?_of_mem hc
      exact ih c (by have := Ex.rk_lt (op := op) (n := n) (nm := nm) hk; omega) (h3 c hc) P
    have hgo := refE_go (p := P) l 0 hih
    by_cases hk : kOf op (l.map kE) = 0
    · have hF : faultE (.mk op n nm l) = some (faultE.go 0 l) := by rw [faultE, if_neg (by simp [hk])]
      rw [hF, refE]
      by_cases hw : ∀ c ∈ l, kE c ≠ 0
      · have hn : ∀ c ∈ l, faultE c = none := fun c hc => faultE_none.2 (hw c hc)
        have hany : l.any (fun c => (faultE c).isSome) = false := by
          rw [List.any_eq_false]; intro c hc; simp [hn c hc]
        rw [hany] at hgo
        rw [if_pos ⟨hk, hw⟩, hgo, faultE_go_nil hn]
        simp [bet]
      · have hany : l.any (fun c => (faultE c).isSome) = true := by
          apply Classical.byContradiction
          intro h
          apply hw
          intro c hc
          rw [Bool.not_eq_true, List.any_eq_false] at h
          have := h c hc
          exact faultE_none.1 (by simpa using this)
        rw [hany] at hgo
        rw [if_neg (fun h => hw h.2), hgo]
        simp
    · have hF : faultE (.mk op n nm l) = none := by rw [faultE, if_pos hk]
      have hw := kid_kinds hb (by rw [kE_mk]; exact hk)
      have hany : l.any (fun c => (faultE c).isSome) = false := by
        rw [List.any_eq_false]; intro c hc; simp [faultE_none.2 (hw c hc)]
      rw [hany] at hgo
      rw [hF, refE, if_neg (fun h => hk h.1), hgo]
      simp
/-- Terms. -/
def needT (op : Int) : Int := if op = 6 then 1 else 2
def fitT : Te → Bool
  | .mk op _ x l => x.all (fun e => decide (kE e = needT op)) && go l
  where go : List Te → Bool
  | [] => true
  | e :: t => fitT e && go t
theorem fitT_go (l : List Te) : fitT.go l = l.all fitT := by
  induction l with
  | nil => rfl
  | cons x t ih => simp only [fitT.go, ih, List.all_cons]
def firstX (op : Int) : Nat → List Ex → Option (List Int)
  | _, [] => none
  | i, e :: t => if kE e = needT op then firstX op (i + 1) t else some ((i : Int) :: (faultE e).getD [])
def faultT : Te → Option (List Int)
  | .mk op _ x l => match firstX op 0 x with | some p => some p | none => go x.length l
  where go : Nat → List Te → Option (List Int)
  | _, [] => none
  | i, e :: t => match faultT e with | some p => some ((i : Int) :: p) | none => go (i + 1) t
def refX (op : Int) (p : List Int) : Nat → Option (List Int) → List Ex → Option (List Int)
  | _, b, [] => b
  | i, b, e :: t => refX op p (i + 1) (if kE e ≠ 0 ∧ ¬ (op = 6 ↔ kE e = 1) then bet (bet b (refE e (p ++ [(i : Int)]))) (some (p ++ [(i : Int)])) else bet b (refE e (p ++ [(i : Int)]))) t
def refT : Te → List Int → Option (List Int)
  | .mk op _ x l, p => go p x.length (refX op p 0 none x) l
  where go (p : List Int) : Nat → Option (List Int) → List Te → Option (List Int)
  | _, b, [] => b
  | i, b, e :: t => go p (i + 1) (bet b (refT e (p ++ [(i : Int)]))) t
theorem refX_stays {op : Int} {p : List Int} : ∀ (l : List Ex) (i : Nat) (i' : Int) (q : List Int), (∀ c ∈ l, bE c = true) → i' < (i : Int) → refX op p i (some (p ++ i' :: q)) l = some (p ++ i' :: q)
  | [], _, _, _, _, _ => rfl
  | e :: t, i, i', q, h, hi => by
    rw [refX, refE_eq _ e (Nat.le_refl _) (h e (by simp))]
    have h1 : bet (some (p ++ i' :: q)) ((faultE e).map ((p ++ [(i : Int)]) ++ ·)) = some (p ++ i' :: q) := by
      cases faultE e with
      | none => rfl
      | some r => rw [Option.map_some, List.append_assoc, List.singleton_append, bet_keep hi]
    rw [h1, bet_keep hi, ite_self]
    exact refX_stays t (i + 1) i' q (fun c hc => h c (by simp [hc])) (by omega)
theorem refX_go {op : Int} {p : List Int} : ∀ (l : List Ex) (i : Nat), (∀ c ∈ l, bE c = true) → refX op p i none l = (firstX op i l).map (p ++ ·)
  | [], i, _ => by simp [refX, firstX]
  | e :: t, i, h => by
    have he := refE_eq _ e (Nat.le_refl _) (h e (by simp)) (p ++ [(i : Int)])
    have hk := kE_bd _ e (Nat.le_refl _)
    rw [refX, firstX, he]
    by_cases h0 : kE e = 0
    · obtain ⟨r, hr⟩ : ∃ r, faultE e = some r := by
        cases hf : faultE e with
        | none => exact absurd h0 (faultE_none.1 hf)
        | some r => exact ⟨r, rfl⟩
      have hn : kE e ≠ needT op := by unfold needT; split <;> omega
      rw [if_neg (fun hh => hh.1 h0), if_neg hn, hr, Option.map_some, List.append_assoc, List.singleton_append, show bet none (some (p ++ (i : Int) :: r)) = some (p ++ (i : Int) :: r) from rfl, refX_stays t (i + 1) i r (fun c hc => h c (by simp [hc])) (by omega)]
      simp
    · have hf : faultE e = none := faultE_none.2 h0
      rw [hf, Option.map_none, show bet none none = none from rfl]
      by_cases hn : kE e = needT op
      · have : ¬ (kE e ≠ 0 ∧ ¬ (op = 6 ↔ kE e = 1)) := by
          unfold needT at hn
          split at hn <;> omega
        rw [if_neg this, if_pos hn]
        exact refX_go t (i + 1) (fun c hc => h c (by simp [hc]))
      · have : kE e ≠ 0 ∧ ¬ (op = 6 ↔ kE e = 1) := by
          unfold needT at hn
          split at hn <;> omega
        rw [if_pos this, if_neg hn, show bet none (some (p ++ [(i : Int)])) = some (p ++ (i : Int) :: []) from rfl, refX_stays t (i + 1) i [] (fun c hc => h c (by simp [hc])) (by omega)]
        simp
theorem refT_stays {p : List Int} : ∀ (l : List Te) (i : Nat) (i' : Int) (q : List Int), (∀ c ∈ l, ∀ P, refT c P = (faultT c).map (P ++ ·)) → i' < (i : Int) → refT.go p i (some (p ++ i' :: q)) l = some (p ++ i' :: q)
  | [], _, _, _, _, _ => rfl
  | e :: t, i, i', q, h, hi => by
    rw [refT.go, h e (by simp)]
    cases hf : faultT e with
    | none => rw [Option.map_none, bet_none]; exact refT_stays t (i + 1) i' q (fun c hc => h c (by simp [hc])) (by omega)
    | some r =>
      rw [Option.map_some, List.append_assoc, List.singleton_append, bet_keep hi]
      exact refT_stays t (i + 1) i' q (fun c hc => h c (by simp [hc])) (by omega)
theorem refT_go {p : List Int} : ∀ (l : List Te) (i : Nat), (∀ c ∈ l, ∀ P, refT c P = (faultT c).map (P ++ ·)) → refT.go p i none l = (faultT.go i l).map (p ++ ·)
  | [], i, _ => by simp [refT.go, faultT.go]
  | e :: t, i, h => by
    rw [refT.go, faultT.go, h e (by simp)]
    cases hf : faultT e with
    | none =>
      rw [Option.map_none, show bet none none = none from rfl, refT_go t (i + 1) (fun c hc => h c (by simp [hc]))]
    | some r =>
      rw [Option.map_some, List.append_assoc, List.singleton_append, show bet none (some (p ++ (i : Int) :: r)) = some (p ++ (i : Int) :: r) from rfl, refT_stays t (i + 1) i r (fun c hc => h c (by simp [hc])) (by omega)]
      simp
theorem firstX_lt {op : Int} : ∀ (l : List Ex) (i : Nat) (r : List Int), firstX op i l = some r → ∃ (i' : Nat) (q : List Int), r = (i' : Int) :: q ∧ i' < i + l.length
  | [], _, _, h => by simp [firstX] at h
  | e :: t, i, r, h => by
    rw [firstX] at h
    split at h
    · obtain ⟨i', q, e1, e2⟩ := firstX_lt t (i + 1) r h
      exact ⟨i', q, e1, by simp only [List.length_cons]; omega⟩
    · injection h with h
      exact ⟨i, _, h.symm, by simp only [List.length_cons]; omega⟩
theorem refT_eq : ∀ (r : Nat) (e : Te), e.rk ≤ r → bT e = true → ∀ P, refT e P = (faultT e).map (P ++ ·) := by
  intro r
  induction r with
  | zero => intro e h; have := e.rk_pos; omega
  | succ r ih =>
    intro e hr hb P
    obtain ⟨op, nm, x, l⟩ := e
    obtain ⟨-, -, -, h4, h5⟩ := bT_inv hb
    have hih : ∀ c ∈ l, ∀ P, refT c P = (faultT c).map (P ++ ·) := by
      intro c hc P
      obtain ⟨k, hk⟩ := List.getElem?_of_mem hc
      exact ih c (by have := Te.rk_lt (op := op) (nm := nm) (x := x) hk; omega) (h5 c hc) P
    rw [refT, faultT, refX_go x 0 h4]
    cases hf : firstX op 0 x with
    | none => rw [Option.map_none, refT_go l x.length hih]
    | some r =>
      obtain ⟨i', q, rfl, hi⟩ := firstX_lt x 0 r hf
      rw [Option.map_some, refT_stays l x.length i' q hih (by omega)]
end Go.Proofs.Ytppnmeobnilojaa
