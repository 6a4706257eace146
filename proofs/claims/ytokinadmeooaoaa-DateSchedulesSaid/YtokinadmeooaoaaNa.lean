/- Contracts of num's size, divisor, narrow, form; conditions: the sizes are within 64 bits. -/
import Derived.Test.YtokinadmeooaoaaDa
import Derived.Test.YtokinadmeooaoaaMem
import Derived.BigQuiet
import Derived.WalkSmall
import Derived.StillTailTactics
namespace Go.Proofs.Ytokinadmeooaoaa
open Go.RowKit
theorem nsize_any (a : Int) (w : World) (h0 : -9223372036854775808 ≤ a) (h1 : a ≤ 9223372036854775807) :
    Calls Try.prog 51 #[.int .i64 a] w fun e w' => e = .returned (.int .u64 (a.natAbs : Int)) ∧ w = w' := by
  by_cases h : a < 0
  · have e : (a.natAbs : Int) = -a := by omega
    rw [e]
    go_enter Try.func51, Try.ntmps51
    go_wp2
    go_ret
    exact ⟨ret_int (by simp only [IntKind.wrap_u64]; omega), rfl⟩
  · have e : (a.natAbs : Int) = a := by omega
    rw [e]
    go_enter Try.func51, Try.ntmps51
    go_wp2
    go_ret
    exact ⟨rfl, rfl⟩
theorem gcd_step (a b : Nat) : Nat.gcd a b = Nat.gcd b (a % b) := by rw [Nat.gcd_comm a b, Nat.gcd_rec b a, Nat.gcd_comm]
theorem divisor_any (a b : Nat) (w : World) :
    Calls Try.prog 60 #[.int .u64 a, .int .u64 b] w fun e w' => e = .returned (.int .u64 (Nat.gcd a b : Nat)) ∧ Below w.heap.size w w' := by
  have hR : ∀ c : Nat, Nat.gcd c 0 = Nat.gcd a b → Ending.returned (.int .u64 (c : Int)) = .returned (.int .u64 ((Nat.gcd a b : Nat) : Int)) := fun c h => ret_int (by rw [← h, Nat.gcd_zero_right])
  have HR := Lib.hid hR
  clear hR
  generalize hg : Nat.gcd a b = g at *
  have HG := Lib.hid hg
  clear hg
  go_enter Try.func60, Try.ntmps60
  go_wp2_with fail
  go_loopw [0, 1] (fun x y wr => ∃ c d : Nat, x = .int .u64 c ∧ y = .int .u64 d ∧ Hid (Nat.gcd c d = g) ∧ Below w.heap.size w wr) (fun _ y _ => (intOf y).toNat)
  case atStart => exact ⟨a, b, rfl, rfl, HG, Below.refl _ _⟩
  case round =>
    obtain ⟨c, d, rfl, rfl, HX, hbel⟩ := hrel
    by_cases hd : d = 0
    · subst hd
      go_wp2
      go_ret
      exact ⟨HR.out c HX.out, hbel⟩
    · have hd0 : ((d : Int) != 0) = true := by simp; omega
      have hd1 : ¬ (d : Int) = 0 := by omega
      have hlt : c % d < d := Nat.mod_lt _ (by omega)
      have HX2 : Hid (Nat.gcd d (c % d) = g) := by show _ = _; rw [← gcd_step]; exact HX.out
      go_wp2_with fail
      go_quiet (fail)
      go_wp2
      go_roundw
      case rel => exact ⟨d, c % d, rfl, rfl, HX2, below_drewN hbel _⟩
      case measure => simp only [intOf]; omega
/-- What is left of a number of 64 bits without a sign, and its sign. -/
def sgn (neg : Bool) (n : Int) : Int := if neg then -n else n
def narB (neg : Bool) (n : Int) : Bool := if neg then decide (n ≤ 9223372036854775808) else decide (n < 9223372036854775808)
def narN (neg : Bool) (n : Int) : Int := wrap64 (sgn neg n)
theorem wrap64_neg (n : Int) : wrap64 (-wrap64 n) = wrap64 (-n) := by simp only [wrap64]; omega
set_option maxRecDepth 100000 in
theorem narrow_any (neg : Bool) (n : Int) (w : World) (_h0 : 0 ≤ n) (_hn : n < 18446744073709551616) :
    Calls Try.prog 61 #[.agg #[.int .u64 0, .int .u64 n, .bool neg]] w fun e w' => e = .returned (.tuple #[.int .i64 (narN neg n), .bool (narB neg n)]) ∧ Below w.heap.size w w' := by
  cases neg
  · go_enter Try.func61, Try.ntmps61
    go_wp2_with fail
    go_quiet (fail)
    go_wp2
    go_ret2
    exact ⟨ret2 rfl rfl, below_drewN ((Below.refl _ _).alloc (Nat.le_refl _) _) _⟩
  · have HW := Lib.hid (wrap64_neg n)
    go_enter Try.func61, Try.ntmps61
    go_wp2_with fail
    go_quiet (fail)
    go_wp2
    go_ret2
    exact ⟨ret2 HW.out rfl, below_drewN ((Below.refl _ _).alloc (Nat.le_refl _) _) _⟩
/-- A ratio in form: of sizes num and den. -/
def formB (neg : Bool) (num den : Nat) : Bool := narB neg ((num : Int) / (Nat.gcd num den : Nat)) && decide ((den : Int) / (Nat.gcd num den : Nat) < 9223372036854775808)
def formP (neg : Bool) (num den : Nat) : Int := if formB neg num den then narN neg ((num : Int) / (Nat.gcd num den : Nat)) else 0
def formQ (neg : Bool) (num den : Nat) : Int := if formB neg num den then (den : Int) / (Nat.gcd num den : Nat) else 0
theorem form_yes (neg : Bool) (num den : Nat) (h : formB neg num den = true) :
    Ending.returned (.tuple #[.agg #[.int .i64 (narN neg ((num : Int) / (Nat.gcd num den : Nat))), .int .i64 ((den : Int) / (Nat.gcd num den : Nat))], .bool true]) = .returned (.tuple #[.agg #[.int .i64 (formP neg num den), .int .i64 (formQ neg num den)], .bool (formB neg num den)]) := by
  unfold formP formQ; rw [if_pos h, if_pos h, h]
theorem form_no (neg : Bool) (num den : Nat) (h : formB neg num den = false) :
    Ending.returned (.tuple #[.agg #[.int .i64 0, .int .i64 0], .bool false]) = .returned (.tuple #[.agg #[.int .i64 (formP neg num den), .int .i64 (formQ neg num den)], .bool (formB neg num den)]) := by
  unfold formP formQ; rw [if_neg (by rw [h]; simp), if_neg (by rw [h]; simp), h]
theorem div_bd (a g : Int) (h0 : 0 ≤ a) (hg : 0 < g) : 0 ≤ a / g ∧ a / g ≤ a := by
  refine ⟨Int.ediv_nonneg h0 (by omega), ?_⟩
  have := Int.ediv_le_self g h0
  exact this
set_option maxRecDepth 100000 in
set_option maxHeartbeats 400000 in
theorem form_any (neg : Bool) (num den : Nat) (w : World) (hn : (num : Int) < 18446744073709551616) (hd : (den : Int) < 18446744073709551616) (hd0 : 0 < den) :
    Calls Try.prog 50 #[.bool neg, .int .u64 num, .int .u64 den] w fun e w' => e = .returned (.tuple #[.agg #[.int .i64 (formP neg num den), .int .i64 (formQ neg num den)], .bool (formB neg num den)]) ∧ Below w.heap.size w w' := by
  have hg : 0 < Nat.gcd num den := Nat.gcd_pos_of_pos_right _ hd0
  have FY := Lib.hid (form_yes neg num den)
  have FN := Lib.hid (form_no neg num den)
  have FB := Lib.hid (show formB neg num den = (narB neg ((num : Int) / (Nat.gcd num den : Nat)) && decide ((den : Int) / (Nat.gcd num den : Nat) < 9223372036854775808)) from rfl)
  have hgi : ((Nat.gcd num den : Nat) : Int) ≠ 0 := by omega
  obtain ⟨n0, n1⟩ := div_bd (num : Int) (Nat.gcd num den : Nat) (by omega) (by omega)
  obtain ⟨d0, d1⟩ := div_bd (den : Int) (Nat.gcd num den : Nat) (by omega) (by omega)
  go_enter Try.func50, Try.ntmps50
  go_wp2_with fail
  refine (divisor_any _ _ _).mono ?_
  rintro e w1 ⟨rfl, b1⟩
  generalize Nat.gcd num den = g at *
  have bw1 : Below w.heap.size w w1 := ((Below.refl _ _).alloc (Nat.le_refl _) _).trans (b1.mono (by simp))
  have B1 := (Mem.Blk.new w 29 #[.int .i64 0, .int .i64 0]).below b1
  have n2 : (num : Int) / (g : Int) < 18446744073709551616 := by omega
  generalize hde : (den : Int) / (g : Int) = dd at *
  generalize hnu : (num : Int) / (g : Int) = nn at *
  by_cases hdd : dd < 9223372036854775808
  case neg =>
    have FIN := Lib.hid (FN.out (by rw [FB.out]; simp [hdd]))
    have hdd' : ¬ dd < 9223372036854775808 := hdd
    go_wp2_with fail
    refine (narrow_any _ _ _ n0 n2).mono ?_
    rintro e w2 ⟨rfl, b2⟩
    obtain ⟨c0, c1, f0, f1⟩ := (B1.below b2).two
    have bw2 := bw1.trans (b2.mono bw1.size)
    cases hnb : narB neg (nn)
    all_goals
      go_wp2
      refine bodyPost_ret (v := .tuple #[.agg #[.int .i64 0, .int .i64 0], .bool false]) (by simp [results, Try.results50, go_sem, c0, c1]) rfl ⟨FIN.out, ?_⟩
      exact (bw2.setCell (Nat.le_refl _) _).setCell (Nat.le_refl _) _
  cases hnb : narB neg (nn) with
  | false =>
    have FIN := Lib.hid (FN.out (by rw [FB.out, hnb]; rfl))
    go_wp2_with fail
    refine (narrow_any _ _ _ n0 n2).mono ?_
    rintro e w2 ⟨rfl, b2⟩
    obtain ⟨c0, c1, f0, f1⟩ := (B1.below b2).two
    have bw2 := bw1.trans (b2.mono bw1.size)
    rw [hnb]
    go_wp2
    refine bodyPost_ret (v := .tuple #[.agg #[.int .i64 0, .int .i64 0], .bool false]) (by simp [results, Try.results50, go_sem, c0, c1]) rfl ⟨FIN.out, ?_⟩
    exact (bw2.setCell (Nat.le_refl _) _).setCell (Nat.le_refl _) _
  | true =>
    have FIN := Lib.hid (FY.out (by rw [FB.out, hnb]; simp [hdd]))
    go_wp2_with fail
    refine (narrow_any _ _ _ n0 n2).mono ?_
    rintro e w2 ⟨rfl, b2⟩
    obtain ⟨c0, c1, f0, f1⟩ := (B1.below b2).two
    have bw2 := bw1.trans (b2.mono bw1.size)
    rw [hnb]
    clear hn hd n2 n0 n1 d1 b1 b2 B1
    go_wp2
    refine bodyPost_ret (v := .tuple #[.agg #[.int .i64 (narN neg (nn)), .int .i64 (dd)], .bool true]) (by simp [results, Try.results50, go_sem, c0, c1]) rfl ⟨FIN.out, ?_⟩
    exact (bw2.setCell (Nat.le_refl _) _).setCell (Nat.le_refl _) _
end Go.Proofs.Ytokinadmeooaoaa
