/- The contracts of built, RightExpr, Right; condition: the tree is less than 1000 deep. -/
import Derived.Test.YtjpkljkmignnjaaBuilt
import Derived.Test.YtjpkljkmignnjaaSizeT
namespace Go.Proofs.Ytjpkljkmignnjaa
set_option linter.unusedVariables false
set_option linter.unusedSimpArgs false
open Go.RowKit
/-- Are a term's own cells as they must be? -/
def okT (op : Int) (nm : ByteArray) : Bool := !(op == 2 && !fre nm) && !(op != 2 && !nm.toList.isEmpty)
def bT : Te → Bool
  | .mk op nm x l => (arX op == (x.length : Nat)) && (arT op == (l.length : Nat)) && okT op nm && !(x.any fun e => !bE e) && go l
  where go : List Te → Bool
  | [] => true
  | e :: t => bT e && go t
theorem bT_go (l : List Te) : bT.go l = !l.any fun e => !bT e := by
  induction l with
  | nil => rfl
  | cons x t ih => simp only [bT.go, ih, List.any_cons, Bool.not_or, Bool.not_not]
set_option maxRecDepth 100000 in
set_option maxHeartbeats 4000000 in
theorem built_any : ∀ (r : Nat) (e : Te), e.rk ≤ r → ∀ (cs : List Value) (w : World), RepT w [] e cs →
    Calls Try.prog 29 #[.agg cs.toArray] w fun x w' => x = .returned (.bool (bT e)) ∧ Below w.heap.size w w' := by
  intro r
  induction r with
  | zero => intro e h; have := e.rk_pos; omega
  | succ r ih =>
    intro e hr cs w hR
    obtain ⟨op, nm, exprs, terms, a, len, cap, a2, len2, cap2, rfl, rfl, i1, i3, hS, hS2⟩ := hR.inv
    obtain ⟨f1, f2, f3⟩ := hS.facts
    obtain ⟨f4, f5, f6⟩ := hS2.facts
    have HW0 := Lib.hid ((Below.refl w.heap.size w).alloc (Nat.le_refl _) (.cells #[.int .i64 op, .string nm, .slice a len cap, .slice a2 len2 cap2] 33))
    have HC : Hid (∀ W, Below w.heap.size w W → Calls Try.prog 46 #[.slice a len cap, .func (.func 47) #[] #[]] W fun e w' => e = .returned (.bool (exprs.any fun e => !bE e)) ∧ Below W.heap.size W w') := by
      intro W hW
      refine containsE_any 47 _ exprs a len cap W (enters_of Try.func47 (by kernel_rfl) rfl) (hS.kept (Kept.of_below hW [])) ?_
      intro k e' cs' W' hk hR'
      have HI := Lib.hid (fun W1 hW1 => builtExpr_any e'.rk e' (Nat.le_refl _) cs' W1 (hR'.kept hW1))
      obtain ⟨op', n', nm', args', a', len', cap', rfl, rfl, _, _, _, _⟩ := hR'.inv
      have hk0 := Lib.hid (Kept.alloc W' (.cells #[.int .i64 op', .int .i64 n', .string nm', .slice a' len' cap'] 38) [])
      generalize bE (.mk op' n' nm' args') = v at *
      clear hR' hR hS hS2 hW ih hk
      go_enter Try.func47, Try.ntmps47
      go_wp2_with fail
      refine (HI.out _ hk0.out).mono ?_; rintro x w1 ⟨rfl, b1⟩
      go_wp2
      go_ret
      exact ⟨rfl, ((Below.refl _ _).alloc (Nat.le_refl _) _).trans (b1.mono (by simp))⟩
    have HC2 : Hid (∀ W, Below w.heap.size w W → Calls Try.prog 48 #[.slice a2 len2 cap2, .func (.func 49) #[] #[]] W fun e w' => e = .returned (.bool (terms.any fun e => !bT e)) ∧ Below W.heap.size W w') := by
      intro W hW
      refine containsT_any 49 _ terms a2 len2 cap2 W (enters_of Try.func49 (by kernel_rfl) rfl) (hS2.kept (Kept.of_below hW [])) ?_
      intro k e' cs' W' hk hR'
      have hlt := Te.rk_lt (op := op) (nm := nm) (x := exprs) hk
      have HI := Lib.hid (fun W1 hW1 => ih e' (by omega) cs' W1 (hR'.kept hW1))
      obtain ⟨op', nm', ex', te', a', len', cap', a3, len3, cap3, rfl, rfl, _, _, _, _⟩ := hR'.inv
      have hk0 := Lib.hid (Kept.alloc W' (.cells #[.int .i64 op', .string nm', .slice a' len' cap', .slice a3 len3 cap3] 33) [])
      generalize bT (.mk op' nm' ex' te') = v at *
      clear hR' hlt hR hS hS2 hW ih hk
      go_enter Try.func49, Try.ntmps49
      go_wp2_with fail
      refine (HI.out _ hk0.out).mono ?_; rintro x w1 ⟨rfl, b1⟩
      go_wp2
      go_ret
      exact ⟨rfl, ((Below.refl _ _).alloc (Nat.le_refl _) _).trans (b1.mono (by simp))⟩
    have HAR := Lib.hid (fun W => arities_any op W)
    have HFR := Lib.hid (fun W => free_any nm W i3)
    have HB := Lib.hid (show bT (.mk op nm exprs terms) = ((arX op == (len : Nat)) && (arT op == (len2 : Nat)) && (!(op == 2 && !fre nm) && !(op != 2 && !nm.toList.isEmpty)) && !(exprs.any fun e => !bE e) && !(terms.any fun e => !bT e)) by rw [← bT_go, ← f1, ← f4]; rfl)
    have HF : Hid (∀ x, bT (.mk op nm exprs terms) = x → Ending.returned (.bool x) = .returned (.bool (bT (.mk op nm exprs terms)))) := fun x h => by rw [h]
    generalize bT (.mk op nm exprs terms) = R at *
    generalize (exprs.any fun e => !bE e) = C at *
    generalize (terms.any fun e => !bT e) = D at *
    generalize arX op = A at *
    generalize arT op = A2 at *
    generalize fre nm = FR at *
    clear ih hr hR hS hS2 f1 f4 i1
    by_cases hA : A = (len : Int)
    case neg =>
      have F := Lib.hid (HF.out false (by rw [HB.out]; simp [hA]))
      have t1 : (A != (len : Int)) = true := by simp [hA]
      clear hA
      go_enter Try.func29, Try.ntmps29
      go_wp2_with fail
      refine (HAR.out _).mono ?_; rintro x w' ⟨rfl, rfl⟩
      go_wp2
      go_ret
      exact ⟨F.out, HW0.out⟩
    subst hA
    by_cases hA2 : A2 = (len2 : Int)
    case neg =>
      have F := Lib.hid (HF.out false (by rw [HB.out]; simp [hA2]))
      have t1 : (A2 != (len2 : Int)) = true := by simp [hA2]
      clear hA2
      go_enter Try.func29, Try.ntmps29
      go_wp2_with fail
      refine (HAR.out _).mono ?_; rintro x w' ⟨rfl, rfl⟩
      go_wp2
      go_ret
      exact ⟨F.out, HW0.out⟩
    subst hA2
    by_cases o2 : op = 2
    · subst o2
      cases FR
      · have F := Lib.hid (HF.out false (by rw [HB.out]; simp))
        go_enter Try.func29, Try.ntmps29
        go_wp2_with fail
        refine (HAR.out _).mono ?_; rintro x w' ⟨rfl, rfl⟩
        go_wp2_with fail
        refine (HFR.out _).mono ?_; rintro x w' ⟨rfl, rfl⟩
        go_wp2
        go_ret
        exact ⟨F.out, HW0.out⟩
      · cases C
        · have F := Lib.hid (HF.out (!D) (by rw [HB.out]; simp))
          go_enter Try.func29, Try.ntmps29
          go_wp2_with fail
          refine (HAR.out _).mono ?_; rintro x w' ⟨rfl, rfl⟩
          go_wp2_with fail
          refine (HFR.out _).mono ?_; rintro x w' ⟨rfl, rfl⟩
          go_wp2_with fail
          refine (HC.out _ HW0.out).mono ?_; rintro x w1 ⟨rfl, b1⟩
          have W1 := Lib.hid (HW0.out.trans (b1.mono HW0.out.size))
          have c3 : w1.cell? ⟨w.heap.size, 3, none⟩ = some (.slice a2 len2 cap2) := ((Mem.Blk.new w 33 #[.int .i64 _, .string nm, .slice a len cap, .slice a2 len2 cap2]).below b1).cell 3
          go_wp2_with fail
          refine (HC2.out _ W1.out).mono ?_; rintro x w2 ⟨rfl, b2⟩
          go_wp2
          go_ret
          exact ⟨F.out, W1.out.trans (b2.mono W1.out.size)⟩
        · have F := Lib.hid (HF.out false (by rw [HB.out]; simp))
          go_enter Try.func29, Try.ntmps29
          go_wp2_with fail
          refine (HAR.out _).mono ?_; rintro x w' ⟨rfl, rfl⟩
          go_wp2_with fail
          refine (HFR.out _).mono ?_; rintro x w' ⟨rfl, rfl⟩
          go_wp2_with fail
          refine (HC.out _ HW0.out).mono ?_; rintro x w1 ⟨rfl, b1⟩
          go_wp2
          go_ret
          exact ⟨F.out, HW0.out.trans (b1.mono HW0.out.size)⟩
    · have g2 : (op == 2) = false := by simp [o2]
      have g2' : (op != 2) = true := by simp [o2]
      cases he : nm.toList with
      | cons c0 ct =>
        have he2 : nm.toList.isEmpty = false := by rw [he]; rfl
        have he3 : (!nm.toList.isEmpty) = true := by rw [he2]; rfl
        have F := Lib.hid (HF.out false (by rw [HB.out, he2]; simp [o2]))
        clear he o2
        go_enter Try.func29, Try.ntmps29
        go_wp2_with fail
        refine (HAR.out _).mono ?_; rintro x w' ⟨rfl, rfl⟩
        go_wp2
        go_ret
        exact ⟨F.out, HW0.out⟩
      | nil =>
        have he2 : nm.toList.isEmpty = true := by rw [he]; rfl
        cases C
        · have F := Lib.hid (HF.out (!D) (by rw [HB.out, he2]; simp [o2]))
          clear o2
          go_enter Try.func29, Try.ntmps29
          go_wp2_with fail
          refine (HAR.out _).mono ?_; rintro x w' ⟨rfl, rfl⟩
          go_wp2_with fail
          refine (HC.out _ HW0.out).mono ?_; rintro x w1 ⟨rfl, b1⟩
          have W1 := Lib.hid (HW0.out.trans (b1.mono HW0.out.size))
          have c3 : w1.cell? ⟨w.heap.size, 3, none⟩ = some (.slice a2 len2 cap2) := ((Mem.Blk.new w 33 #[.int .i64 _, .string nm, .slice a len cap, .slice a2 len2 cap2]).below b1).cell 3
          go_wp2_with fail
          refine (HC2.out _ W1.out).mono ?_; rintro x w2 ⟨rfl, b2⟩
          go_wp2
          go_ret
          exact ⟨F.out, W1.out.trans (b2.mono W1.out.size)⟩
        · have F := Lib.hid (HF.out false (by rw [HB.out, he2]; simp))
          clear o2
          go_enter Try.func29, Try.ntmps29
          go_wp2_with fail
          refine (HAR.out _).mono ?_; rintro x w' ⟨rfl, rfl⟩
          go_wp2_with fail
          refine (HC.out _ HW0.out).mono ?_; rintro x w1 ⟨rfl, b1⟩
          go_wp2
          go_ret
          exact ⟨F.out, HW0.out.trans (b1.mono HW0.out.size)⟩
end Go.Proofs.Ytjpkljkmignnjaa
