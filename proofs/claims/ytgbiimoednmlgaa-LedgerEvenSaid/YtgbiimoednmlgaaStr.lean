/- Contracts of names: letters, parts, Named, Reserved, free, of the program and of the document's answer. -/
import Derived.Test.YtgbiimoednmlgaaProg
import Derived.Test.YtgbiimoednmlgaaChecked
import Derived.Test.YtgbiimoednmlgaaTree
import Derived.LoopTactic
import Derived.WalkLawsBesides
import Derived.BigQuiet
namespace Go.Proofs.Ytgbiimoednmlgaa
set_option linter.unusedVariables false
set_option linter.unusedSimpArgs false
open Go.RowKit
theorem ret_bool {a b : Bool} (h : a = b) : Ending.returned (.bool a) = .returned (.bool b) := by rw [h]
theorem ret_intk {k : IntKind} {a b : Int} (h : a = b) : Ending.returned (.int k a) = .returned (.int k b) := by rw [h]
def ltr (c : Int) : Bool := decide ((97 ≤ c ∧ c ≤ 122) ∨ (65 ≤ c ∧ c ≤ 90))
def dgt (c : Int) : Bool := decide (48 ≤ c ∧ c ≤ 57)
def prt (c : Int) : Bool := ltr c || dgt c || decide (c = 95)
theorem letter_any (c : Int) (w : World) : Calls Try.prog 77 #[.int .u8 c] w fun e w' => e = .returned (.bool (ltr c)) ∧ w = w' := by
  have HF : Hid (∀ b, ltr c = b → Ending.returned (.bool b) = .returned (.bool (ltr c))) := fun b h => ret_bool h.symm
  by_cases h1 : 97 ≤ c <;> by_cases h2 : c ≤ 122 <;> by_cases h3 : 65 ≤ c <;> by_cases h4 : c ≤ 90
  all_goals
    first
    | (exfalso; omega)
    | (have F := Lib.hid (HF.out true (by unfold ltr; simp; omega))
       go_enter Try.func77, Try.ntmps77
       go_wp2
       go_ret
       exact ⟨F.out, rfl⟩)
    | (have F := Lib.hid (HF.out false (by unfold ltr; simp; omega))
       go_enter Try.func77, Try.ntmps77
       go_wp2
       go_ret
       exact ⟨F.out, rfl⟩)
theorem rletter_any (c : Int) (w : World) : Calls Try.prog 63 #[.int .u8 c] w fun e w' => e = .returned (.bool (ltr c)) ∧ w = w' := by
  have HF : Hid (∀ b, ltr c = b → Ending.returned (.bool b) = .returned (.bool (ltr c))) := fun b h => ret_bool h.symm
  by_cases h1 : 97 ≤ c <;> by_cases h2 : c ≤ 122 <;> by_cases h3 : 65 ≤ c <;> by_cases h4 : c ≤ 90
  all_goals
    first
    | (exfalso; omega)
    | (have F := Lib.hid (HF.out true (by unfold ltr; simp; omega))
       go_enter Try.func63, Try.ntmps63
       go_wp2
       go_ret
       exact ⟨F.out, rfl⟩)
    | (have F := Lib.hid (HF.out false (by unfold ltr; simp; omega))
       go_enter Try.func63, Try.ntmps63
       go_wp2
       go_ret
       exact ⟨F.out, rfl⟩)
theorem digit_any (c : Int) (w : World) : Calls Try.prog 89 #[.int .u8 c] w fun e w' => e = .returned (.bool (dgt c)) ∧ w = w' := by
  have HF : Hid (∀ b, dgt c = b → Ending.returned (.bool b) = .returned (.bool (dgt c))) := fun b h => ret_bool h.symm
  by_cases h1 : 48 ≤ c <;> by_cases h2 : c ≤ 57
  all_goals
    first
    | (exfalso; omega)
    | (have F := Lib.hid (HF.out true (by unfold dgt; simp; omega))
       go_enter Try.func89, Try.ntmps89
       go_wp2
       go_ret
       exact ⟨F.out, rfl⟩)
    | (have F := Lib.hid (HF.out false (by unfold dgt; simp; omega))
       go_enter Try.func89, Try.ntmps89
       go_wp2
       go_ret
       exact ⟨F.out, rfl⟩)
theorem part_any (c : Int) (w : World) : Calls Try.prog 79 #[.int .u8 c] w fun e w' => e = .returned (.bool (prt c)) ∧ w = w' := by
  have HF : Hid (∀ b, prt c = b → Ending.returned (.bool b) = .returned (.bool (prt c))) := fun b h => ret_bool h.symm
  have HL := Lib.hid (fun W => letter_any c W)
  have HD := Lib.hid (fun W => digit_any c W)
  have HP := Lib.hid (show prt c = (ltr c || dgt c || decide (c = 95)) from rfl)
  generalize ltr c = a at *
  generalize dgt c = b at *
  cases a <;> cases b
  case false.false =>
    have F := Lib.hid (HF.out (c == 95) (by rw [HP.out]; rfl))
    go_enter Try.func79, Try.ntmps79
    go_wp2_with fail
    refine (HL.out _).mono ?_; rintro e w' ⟨rfl, rfl⟩
    go_wp2_with fail
    refine (HD.out _).mono ?_; rintro e w' ⟨rfl, rfl⟩
    go_wp2
    go_ret
    exact ⟨F.out, rfl⟩
  case false.true =>
    have F := Lib.hid (HF.out true (by rw [HP.out]; simp))
    go_enter Try.func79, Try.ntmps79
    go_wp2_with fail
    refine (HL.out _).mono ?_; rintro e w' ⟨rfl, rfl⟩
    go_wp2_with fail
    refine (HD.out _).mono ?_; rintro e w' ⟨rfl, rfl⟩
    go_wp2
    go_ret
    exact ⟨F.out, rfl⟩
  all_goals
    have F := Lib.hid (HF.out true (by rw [HP.out]; simp))
    go_enter Try.func79, Try.ntmps79
    go_wp2_with fail
    refine (HL.out _).mono ?_; rintro e w' ⟨rfl, rfl⟩
    go_wp2
    go_ret
    exact ⟨F.out, rfl⟩
theorem rpart_any (c : Int) (w : World) : Calls Try.prog 64 #[.int .u8 c] w fun e w' => e = .returned (.bool (prt c)) ∧ w = w' := by
  have HF : Hid (∀ b, prt c = b → Ending.returned (.bool b) = .returned (.bool (prt c))) := fun b h => ret_bool h.symm
  have HL := Lib.hid (fun W => rletter_any c W)
  have HP := Lib.hid (show prt c = (ltr c || decide (48 ≤ c ∧ c ≤ 57) || decide (c = 95)) from rfl)
  generalize ltr c = a at *
  cases a
  case false =>
    by_cases h1 : 48 ≤ c
    all_goals
      go_enter Try.func64, Try.ntmps64
      go_wp2_with fail
      refine (HL.out _).mono ?_; rintro e w' ⟨rfl, rfl⟩
      go_wp2
      all_goals
        go_ret
        exact ⟨HF.out _ (by rw [HP.out, Bool.eq_iff_iff]; simp; try omega), rfl⟩
  all_goals
    have F := Lib.hid (HF.out true (by rw [HP.out]; simp))
    go_enter Try.func64, Try.ntmps64
    go_wp2_with fail
    refine (HL.out _).mono ?_; rintro e w' ⟨rfl, rfl⟩
    go_wp2
    go_ret
    exact ⟨F.out, rfl⟩
/-- The bytes of a string, as integers. -/
def bs (s : ByteArray) : List Int := s.data.toList.map fun c => (c.toNat : Int)
theorem bs_len (s : ByteArray) : (bs s).length = s.size := by unfold bs; simp
theorem bs_get (s : ByteArray) (k : Nat) (h : k < s.size) : (bs s)[k]? = some ((s[k].toNat : Nat) : Int) := by
  unfold bs
  rw [List.getElem?_map, List.getElem?_eq_getElem (by simpa using h)]; rfl
/-- How many first bytes are so. -/
def runN (p : Int → Bool) : List Int → Nat
  | [] => 0
  | c :: t => if p c then 1 + runN p t else 0
theorem runN_le (p : Int → Bool) (l : List Int) : runN p l ≤ l.length := by
  induction l with
  | nil => exact Nat.le_refl _
  | cons c t ih => simp only [runN]; split <;> simp <;> omega
theorem runN_all (p : Int → Bool) (l : List Int) : runN p l = l.length ↔ l.all p = true := by
  induction l with
  | nil => simp [runN]
  | cons c t ih =>
    have := runN_le p t
    simp only [runN, List.all_cons, List.length_cons]
    cases h : p c
    · simp
    · simp only [if_true, Bool.true_and, ← ih]; omega
theorem runN_at (p : Int → Bool) (l : List Int) (k : Nat) (c : Int) (h : l[k]? = some c) (hr : k ≤ runN p l) : (p c = true → k + 1 ≤ runN p l) ∧ (p c = false → runN p l = k) := by
  induction l generalizing k with
  | nil => cases h
  | cons x t ih =>
    simp only [runN] at hr ⊢
    cases k with
    | zero =>
      simp at h; subst h
      constructor
      · intro hp; rw [if_pos hp]; omega
      · intro hp; rw [hp]; rfl
    | succ j =>
      cases hx : p x
      · rw [hx] at hr; simp at hr
      · simp only [hx, if_true] at hr ⊢
        have := ih j (by simpa using h) (by omega)
        constructor
        · intro hp; have := this.1 hp; omega
        · intro hp; have := this.2 hp; omega
set_option maxHeartbeats 400000 in
theorem run_any (s : ByteArray) (w : World) (hs : s.size ≤ 9223372036854775807) :
    Calls Try.prog 78 #[.string s, .func (.func 79) #[] #[]] w fun e w' => e = .returned (.int .i64 (runN prt (bs s) : Nat)) ∧ w = w' := by
  have HP := Lib.hid (fun c W => part_any c W)
  have HA := Lib.hid (fun k c => runN_at prt (bs s) k c)
  have HL := Lib.hid (runN_le prt (bs s))
  have HG := Lib.hid (fun k h => bs_get s k h)
  have HN := Lib.hid (bs_len s)
  generalize runN prt (bs s) = r at *
  go_enter Try.func78, Try.ntmps78
  go_wp2_with fail
  go_loop [5] (fun n => ∃ k : Nat, n = .int .i64 k ∧ k ≤ r ∧ k ≤ s.size) (fun n => s.size - (intOf n).toNat)
  case atStart => exact ⟨0, rfl, Nat.zero_le _, Nat.zero_le _⟩
  case round =>
    obtain ⟨k, rfl, hk, hk2⟩ := hrel
    by_cases hlt : k < s.size
    · have ha := HA.out k _ (HG.out k hlt) hk
      have HC := Lib.hid (fun W => HP.out (s[k].toNat : Nat) W)
      cases hp : prt (s[k].toNat : Nat)
      · rw [hp] at HC
        have e := ha.2 hp
        clear ha hp
        subst e
        go_wp2_with fail
        refine (HC.out _).mono ?_; rintro e w' ⟨rfl, rfl⟩
        go_wp2
        go_ret
        exact ⟨rfl, rfl⟩
      · rw [hp] at HC
        have e := ha.1 hp
        clear ha hp
        go_wp2_with fail
        refine (HC.out _).mono ?_; rintro e w' ⟨rfl, rfl⟩
        go_wp2
        go_round
        case rel => exact ⟨k + 1, by go_num, e, by omega⟩
        case measure => simp [intOf]; omega
    · have e : k = r := by have h1 := HL.out; have h2 := HN.out; rw [h2] at h1; omega
      subst e
      go_wp2
      go_ret
      exact ⟨rfl, rfl⟩
end Go.Proofs.Ytgbiimoednmlgaa
