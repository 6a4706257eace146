/- Contracts of arity, arities, builtExpr. -/
import Derived.Test.YtjpkljkmignnjaaHas
import Derived.Test.YtjpkljkmignnjaaStrC
import Derived.Deep.QuietTactic
namespace Go.Proofs.Ytjpkljkmignnjaa
set_option linter.unusedVariables false
set_option linter.unusedSimpArgs false
open Go.RowKit
theorem quiet_left {P : Program} {f : FuncId} {args : Array Value} {w : World} {n : Nat} {v : Value}
    (h : Calls P f args (w.drewN n) fun e w' => e = .returned v ∧ w.drewN n = w') : Calls P f args (w.drewN n) fun e w'' => e = .returned v ∧ ∃ m, w'' = w.drewN m :=
  h.mono fun _ _ ⟨he, hm⟩ => ⟨he, n, hm.symm⟩
def ar (op : Int) : Int := if 1 ≤ op ∧ op ≤ 4 then 0 else if 5 ≤ op ∧ op ≤ 18 then 2 else if op = 19 ∨ op = 20 then 1 else if op = 21 then 3 else -1
theorem arity_any (op : Int) (w : World) : Calls Try.prog 52 #[.int .i64 op] w fun e w' => e = .returned (.int .i64 (ar op)) ∧ w = w' := by
  by_cases h5 : op = 19
  · subst h5; rw [show ar 19 = 1 by decide]; go_enter Try.func52, Try.ntmps52; go_wp2; go_ret; exact ⟨rfl, rfl⟩
  by_cases h6 : op = 20
  · subst h6; rw [show ar 20 = 1 by decide]; go_enter Try.func52, Try.ntmps52; go_wp2; go_ret; exact ⟨rfl, rfl⟩
  by_cases h7 : op = 21
  · subst h7; rw [show ar 21 = 3 by decide]; go_enter Try.func52, Try.ntmps52; go_wp2; go_ret; exact ⟨rfl, rfl⟩
  have g5 : (op == 19) = false := by simp [h5]
  have g6 : (op == 20) = false := by simp [h6]
  have g7 : (op == 21) = false := by simp [h7]
  have HF : Hid (∀ x, ar op = x → Ending.returned (.int .i64 x) = .returned (.int .i64 (ar op))) := fun x h => by rw [h]
  have HD := Lib.hid (show ar op = if 1 ≤ op ∧ op ≤ 4 then 0 else if 5 ≤ op ∧ op ≤ 18 then 2 else if op = 19 ∨ op = 20 then 1 else if op = 21 then 3 else -1 from rfl)
  by_cases h1 : 1 ≤ op <;> by_cases h2 : op ≤ 4 <;> by_cases h3 : 5 ≤ op <;> by_cases h4 : op ≤ 18
  all_goals
    first
    | (exfalso; omega)
    | (go_enter Try.func52, Try.ntmps52
       go_wp2
       all_goals
         go_ret
         exact ⟨HF.out _ (by rw [HD.out]; repeat' split <;> omega), rfl⟩)
def arX (op : Int) : Int := if op = 1 ∨ op = 2 ∨ op = 3 ∨ op = 4 ∨ op = 5 then 0 else if op = 6 ∨ op = 7 ∨ op = 8 ∨ op = 9 then 1 else -1
def arT (op : Int) : Int := if op = 1 ∨ op = 2 then 0 else if op = 3 then 1 else if op = 4 ∨ op = 5 then 2 else if op = 6 ∨ op = 7 ∨ op = 8 ∨ op = 9 then 1 else -1
theorem arities_any (op : Int) (w : World) : Calls Try.prog 44 #[.int .i64 op] w fun e w' => e = .returned (.tuple #[.int .i64 (arX op), .int .i64 (arT op)]) ∧ w = w' := by
  have HF : Hid (∀ x y, arX op = x → arT op = y → Ending.returned (.tuple #[.int .i64 x, .int .i64 y]) = .returned (.tuple #[.int .i64 (arX op), .int .i64 (arT op)])) := fun x y h h' => by rw [h, h']
  have HD := Lib.hid (show arX op = if op = 1 ∨ op = 2 ∨ op = 3 ∨ op = 4 ∨ op = 5 then 0 else if op = 6 ∨ op = 7 ∨ op = 8 ∨ op = 9 then 1 else -1 from rfl)
  have HE := Lib.hid (show arT op = if op = 1 ∨ op = 2 then 0 else if op = 3 then 1 else if op = 4 ∨ op = 5 then 2 else if op = 6 ∨ op = 7 ∨ op = 8 ∨ op = 9 then 1 else -1 from rfl)
  go_enter Try.func44, Try.ntmps44
  go_wp2
  all_goals
    go_ret2
    exact ⟨HF.out _ _ (by rw [HD.out]; simp_all) (by rw [HE.out]; simp_all), rfl⟩
/-- Are an expression's own cells as they must be? -/
def okE (op n : Int) (nm : ByteArray) : Bool := (n == 0 || op == 1 || op == 2) && (nm.toList.isEmpty || op == 3) && decide (0 ≤ n) && !(op == 2 && decide (2932896 < n)) && !(op == 3 && !fre nm)
def bE : Ex → Bool
  | .mk op n nm l => (ar op == (l.length : Nat)) && okE op n nm && go l
  where go : List Ex → Bool
  | [] => true
  | e :: t => bE e && go t
theorem bE_go (l : List Ex) : bE.go l = !l.any fun e => !bE e := by
  induction l with
  | nil => rfl
  | cons x t ih => simp only [bE.go, ih, List.any_cons, Bool.not_or, Bool.not_not]
set_option maxRecDepth 100000 in
set_option maxHeartbeats 4000000 in
theorem builtExpr_any : ∀ (r : Nat) (e : Ex), e.rk ≤ r → ∀ (cs : List Value) (w : World), RepE w [] e cs →
    Calls Try.prog 32 #[.agg cs.toArray] w fun x w' => x = .returned (.bool (bE e)) ∧ Below w.heap.size w w' := by
  intro r
  induction r with
  | zero => intro e h; have : 1 ≤ e.rk := by cases e; simp only [Ex.rk]; omega
            omega
  | succ r ih =>
    intro e hr cs w hR
    obtain ⟨op, n, nm, args, a, len, cap, rfl, rfl, i1, i2, i3, hS⟩ := hR.inv
    obtain ⟨f1, f2, f3⟩ := hS.facts
    have HR := Lib.hid hr
    have HW0 := Lib.hid ((Below.refl w.heap.size w).alloc (Nat.le_refl _) (.cells #[.int .i64 op, .int .i64 n, .string nm, .slice a len cap] 38))
    have HC : Hid (∀ W, Below w.heap.size w W → Calls Try.prog 46 #[.slice a len cap, .func (.func 53) #[] #[]] W fun e w' => e = .returned (.bool (args.any fun e => !bE e)) ∧ Below W.heap.size W w') := by
      intro W hW
      refine containsE_any 53 _ args a len cap W (enters_of Try.func53 (by kernel_rfl) rfl) (hS.kept (Kept.of_below hW [])) ?_
      intro k e' cs' W' hk hR'
      have hlt := Ex.rk_lt (op := op) (n := n) (nm := nm) hk
      have HI := Lib.hid (fun W1 hW1 => ih e' (by omega) cs' W1 (hR'.kept hW1))
      obtain ⟨op', n', nm', args', a', len', cap', rfl, rfl, _, _, _, _⟩ := hR'.inv
      have hk0 := Lib.hid (Kept.alloc W' (.cells #[.int .i64 op', .int .i64 n', .string nm', .slice a' len' cap'] 38) [])
      generalize bE (.mk op' n' nm' args') = v at *
      clear hR' hlt hR hS hW ih hk
      go_enter Try.func53, Try.ntmps53
      go_wp2_with fail
      refine (HI.out _ hk0.out).mono ?_; rintro x w1 ⟨rfl, b1⟩
      go_wp2
      go_ret
      exact ⟨rfl, ((Below.refl _ _).alloc (Nat.le_refl _) _).trans (b1.mono (by simp))⟩
    have HAR := Lib.hid (fun W => arity_any op W)
    have HFR := Lib.hid (fun W => free_any nm W i3)
    have HB := Lib.hid (show bE (.mk op n nm args) = ((ar op == (len : Nat)) && okE op n nm && !(args.any fun e => !bE e)) by rw [← bE_go, ← f1]; rfl)
    have HO := Lib.hid (show okE op n nm = ((n == 0 || op == 1 || op == 2) && (nm.toList.isEmpty || op == 3) && decide (0 ≤ n) && !(op == 2 && decide (2932896 < n)) && !(op == 3 && !fre nm)) from rfl)
    have HF : Hid (∀ x, bE (.mk op n nm args) = x → Ending.returned (.bool x) = .returned (.bool (bE (.mk op n nm args)))) := fun x h => by rw [h]
    generalize bE (.mk op n nm args) = R at *
    generalize hC : (args.any fun e => !bE e) = C0 at *
    obtain ⟨C, rfl⟩ : ∃ C, C0 = !C := ⟨!C0, by simp⟩
    clear hC
    generalize ar op = A at *
    generalize fre nm = FR at *
    generalize okE op n nm = OK at *
    clear ih hr hR hS f1 i1 i2
    by_cases hA : A = (len : Int)
    case neg =>
      have F := Lib.hid (HF.out false (by rw [HB.out]; simp [hA]))
      have t1 : (A != (len : Int)) = true := by simp [hA]
      clear hA
      go_enter Try.func32, Try.ntmps32
      go_wp2_with fail
      go_quiet ((go_at_call 52; exact quiet_left (HAR.out _)))
      go_wp2
      go_ret
      exact ⟨F.out, below_drewN HW0.out _⟩
    subst hA
    have HB2 := Lib.hid (show R = (((n == 0 || op == 1 || op == 2) && (nm.toList.isEmpty || op == 3) && decide (0 ≤ n) && !(op == 2 && decide (2932896 < n)) && !(op == 3 && !FR)) && C) by rw [HB.out, HO.out]; simp)
    clear HB HO
    by_cases hn : n = 0
    · subst hn
      cases he : nm.toList with
      | nil =>
        have he2 : nm.toList.isEmpty = true := by rw [he]; rfl
        by_cases o3 : op = 3
        · subst o3
          cases FR
          · have F := Lib.hid (HF.out false (by rw [HB2.out]; simp))
            go_enter Try.func32, Try.ntmps32
            go_wp2_with fail
            go_quiet ((go_at_call 52; exact quiet_left (HAR.out _)))
            go_wp2_with fail
            refine (HFR.out _).mono ?_; rintro x w' ⟨rfl, rfl⟩
            go_wp2
            go_ret
            exact ⟨F.out, below_drewN HW0.out _⟩
          · have F := Lib.hid (HF.out C (by rw [HB2.out, he2]; simp))
            go_enter Try.func32, Try.ntmps32
            go_wp2_with fail
            go_quiet ((go_at_call 52; exact quiet_left (HAR.out _)))
            go_wp2_with fail
            refine (HFR.out _).mono ?_; rintro x w' ⟨rfl, rfl⟩
            go_wp2_with fail
            refine (HC.out _ (below_drewN HW0.out _)).mono ?_; rintro x w1 ⟨rfl, b1⟩
            go_wp2
            go_ret
            exact ⟨by rw [← F.out]; simp, (below_drewN HW0.out _).trans (b1.mono (below_drewN HW0.out _).size)⟩
        · have F := Lib.hid (HF.out C (by rw [HB2.out, he2]; simp [o3]))
          have g3 : (op == 3) = false := by simp [o3]
          have g3' : (op != 3) = true := by simp [o3]
          clear o3
          by_cases o2 : op = 2
          · subst o2
            go_enter Try.func32, Try.ntmps32
            go_wp2_with fail
            go_quiet ((go_at_call 52; exact quiet_left (HAR.out _)))
            go_wp2_with fail
            refine (HC.out _ (below_drewN HW0.out _)).mono ?_; rintro x w1 ⟨rfl, b1⟩
            go_wp2
            go_ret
            exact ⟨by rw [← F.out]; simp, (below_drewN HW0.out _).trans (b1.mono (below_drewN HW0.out _).size)⟩
          · have g2 : (op == 2) = false := by simp [o2]
            clear o2
            go_enter Try.func32, Try.ntmps32
            go_wp2_with fail
            go_quiet ((go_at_call 52; exact quiet_left (HAR.out _)))
            go_wp2_with fail
            refine (HC.out _ (below_drewN HW0.out _)).mono ?_; rintro x w1 ⟨rfl, b1⟩
            go_wp2
            go_ret
            exact ⟨by rw [← F.out]; simp, (below_drewN HW0.out _).trans (b1.mono (below_drewN HW0.out _).size)⟩
      | cons c0 ct =>
        have he2 : nm.toList.isEmpty = false := by rw [he]; rfl
        have he3 : (!nm.toList.isEmpty) = true := by rw [he2]; rfl
        clear he
        by_cases o3 : op = 3
        · subst o3
          cases FR
          · have F := Lib.hid (HF.out false (by rw [HB2.out]; simp))
            go_enter Try.func32, Try.ntmps32
            go_wp2_with fail
            go_quiet ((go_at_call 52; exact quiet_left (HAR.out _)))
            go_wp2_with fail
            refine (HFR.out _).mono ?_; rintro x w' ⟨rfl, rfl⟩
            go_wp2
            go_ret
            exact ⟨F.out, below_drewN HW0.out _⟩
          · have F := Lib.hid (HF.out C (by rw [HB2.out, he2]; simp))
            go_enter Try.func32, Try.ntmps32
            go_wp2_with fail
            go_quiet ((go_at_call 52; exact quiet_left (HAR.out _)))
            go_wp2_with fail
            refine (HFR.out _).mono ?_; rintro x w' ⟨rfl, rfl⟩
            go_wp2_with fail
            refine (HC.out _ (below_drewN HW0.out _)).mono ?_; rintro x w1 ⟨rfl, b1⟩
            go_wp2
            go_ret
            exact ⟨by rw [← F.out]; simp, (below_drewN HW0.out _).trans (b1.mono (below_drewN HW0.out _).size)⟩
        · have F := Lib.hid (HF.out false (by rw [HB2.out, he2]; simp [o3]))
          have g3 : (op == 3) = false := by simp [o3]
          have g3' : (op != 3) = true := by simp [o3]
          clear o3
          go_enter Try.func32, Try.ntmps32
          go_wp2_with fail
          go_quiet ((go_at_call 52; exact quiet_left (HAR.out _)))
          go_wp2
          go_ret
          exact ⟨F.out, below_drewN HW0.out _⟩
    have tn : (n != 0) = true := by simp [hn]
    by_cases o1 : op = 1
    · subst o1
      cases he : nm.toList with
      | cons c0 ct =>
        have he2 : nm.toList.isEmpty = false := by rw [he]; rfl
        have he3 : (!nm.toList.isEmpty) = true := by rw [he2]; rfl
        have F := Lib.hid (HF.out false (by rw [HB2.out, he2]; simp))
        clear he
        go_enter Try.func32, Try.ntmps32
        go_wp2_with fail
        go_quiet ((go_at_call 52; exact quiet_left (HAR.out _)))
        go_wp2
        go_ret
        exact ⟨F.out, below_drewN HW0.out _⟩
      | nil =>
        have he2 : nm.toList.isEmpty = true := by rw [he]; rfl
        by_cases hneg : n < 0
        · have F := Lib.hid (HF.out false (by rw [HB2.out]; simp; omega))
          go_enter Try.func32, Try.ntmps32
          go_wp2_with fail
          go_quiet ((go_at_call 52; exact quiet_left (HAR.out _)))
          go_wp2
          go_ret
          exact ⟨F.out, below_drewN HW0.out _⟩
        · have F := Lib.hid (HF.out C (by rw [HB2.out, he2]; simp; omega))
          go_enter Try.func32, Try.ntmps32
          go_wp2_with fail
          go_quiet ((go_at_call 52; exact quiet_left (HAR.out _)))
          go_wp2_with fail
          refine (HC.out _ (below_drewN HW0.out _)).mono ?_; rintro x w1 ⟨rfl, b1⟩
          go_wp2
          go_ret
          exact ⟨by rw [← F.out]; simp, (below_drewN HW0.out _).trans (b1.mono (below_drewN HW0.out _).size)⟩
    by_cases o2 : op = 2
    · subst o2
      cases he : nm.toList with
      | cons c0 ct =>
        have he2 : nm.toList.isEmpty = false := by rw [he]; rfl
        have he3 : (!nm.toList.isEmpty) = true := by rw [he2]; rfl
        have F := Lib.hid (HF.out false (by rw [HB2.out, he2]; simp))
        clear he
        go_enter Try.func32, Try.ntmps32
        go_wp2_with fail
        go_quiet ((go_at_call 52; exact quiet_left (HAR.out _)))
        go_wp2
        go_ret
        exact ⟨F.out, below_drewN HW0.out _⟩
      | nil =>
        have he2 : nm.toList.isEmpty = true := by rw [he]; rfl
        by_cases hneg : n < 0
        · have F := Lib.hid (HF.out false (by rw [HB2.out]; simp; omega))
          go_enter Try.func32, Try.ntmps32
          go_wp2_with fail
          go_quiet ((go_at_call 52; exact quiet_left (HAR.out _)))
          go_wp2
          go_ret
          exact ⟨F.out, below_drewN HW0.out _⟩
        · by_cases hbig : 2932896 < n
          · have F := Lib.hid (HF.out false (by rw [HB2.out]; simp [hbig]))
            go_enter Try.func32, Try.ntmps32
            go_wp2_with fail
            go_quiet ((go_at_call 52; exact quiet_left (HAR.out _)))
            go_wp2
            go_ret
            exact ⟨F.out, below_drewN HW0.out _⟩
          · have F := Lib.hid (HF.out C (by rw [HB2.out, he2, decide_eq_false hbig, decide_eq_true (show 0 ≤ n by omega)]; simp))
            go_enter Try.func32, Try.ntmps32
            go_wp2_with fail
            go_quiet ((go_at_call 52; exact quiet_left (HAR.out _)))
            go_wp2_with fail
            refine (HC.out _ (below_drewN HW0.out _)).mono ?_; rintro x w1 ⟨rfl, b1⟩
            go_wp2
            go_ret
            exact ⟨by rw [← F.out]; simp, (below_drewN HW0.out _).trans (b1.mono (below_drewN HW0.out _).size)⟩
    have F := Lib.hid (HF.out false (by rw [HB2.out]; simp [hn, o1, o2]))
    have g1 : (op != 1) = true := by simp [o1]
    have g2 : (op != 2) = true := by simp [o2]
    clear o1 o2 hn
    go_enter Try.func32, Try.ntmps32
    go_wp2_with fail
    go_quiet ((go_at_call 52; exact quiet_left (HAR.out _)))
    go_wp2
    go_ret
    exact ⟨F.out, below_drewN HW0.out _⟩
end Go.Proofs.Ytjpkljkmignnjaa
