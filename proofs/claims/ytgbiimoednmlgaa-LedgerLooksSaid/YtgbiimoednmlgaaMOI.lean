/- A part of the proof: Big, BgA, BgB, BgC, BgD, BgE, BgF, BgH, one behind another. -/
import Derived.Test.YtgbiimoednmlgaaMOA
import Derived.Test.YtgbiimoednmlgaaMOB
import Derived.Test.YtgbiimoednmlgaaMOC
import Derived.Test.YtgbiimoednmlgaaMOD
import Derived.Test.YtgbiimoednmlgaaMOE
import Derived.Test.YtgbiimoednmlgaaMOF
import Derived.Test.YtgbiimoednmlgaaMOG
import Derived.Test.YtgbiimoednmlgaaMOH
import Derived.WalkSmall
import Derived.BigQuiet
import Derived.Deep.AppendLies
import Derived.StillTailTactics
import Derived.Deep.RegionHeld3
/- Numbers by their digits to the base 65536: plain arithmetic, no program in sight. -/
namespace Go.Big
/-- digits to the base 65536, the lowest first -/
def val : List Nat → Nat
  | [] => 0
  | d :: l => d + 65536 * val l
def Dig (l : List Nat) : Prop := ∀ d ∈ l, d < 65536
def Norm (l : List Nat) : Prop := Dig l ∧ (∀ d, l.getLast? = some d → d ≠ 0)
def pw (k : Nat) : Nat := 65536 ^ k
theorem pw_succ (k : Nat) : pw (k + 1) = 65536 * pw k := by unfold pw; rw [Nat.pow_succ, Nat.mul_comm]
theorem pw_zero : pw 0 = 1 := rfl
theorem pw_pos (k : Nat) : 0 < pw k := Nat.pow_pos (by omega)
theorem pw_add (a b : Nat) : pw (a + b) = pw a * pw b := Nat.pow_add _ _ _
theorem pw_mono {a b : Nat} (h : a ≤ b) : pw a ≤ pw b := Nat.pow_le_pow_right (by omega) h
theorem Dig.nil : Dig [] := by intro d h; cases h
theorem Dig.append {a b : List Nat} (ha : Dig a) (hb : Dig b) : Dig (a ++ b) := by
  intro d h; rcases List.mem_append.1 h with h | h
  · exact ha d h
  · exact hb d h
theorem Dig.take {a : List Nat} (ha : Dig a) (k : Nat) : Dig (a.take k) := fun d h => ha d (List.mem_of_mem_take h)
theorem Dig.drop {a : List Nat} (ha : Dig a) (k : Nat) : Dig (a.drop k) := fun d h => ha d (List.mem_of_mem_drop h)
theorem Dig.getD {a : List Nat} (ha : Dig a) (k : Nat) : a.getD k 0 < 65536 := by
  rw [List.getD_eq_getElem?_getD]
  cases h : a[k]? with
  | none => simp
  | some d => exact ha d (List.mem_of_getElem? h)
theorem val_append (a b : List Nat) : val (a ++ b) = val a + pw a.length * val b := by
  induction a with
  | nil => simp [val, pw]
  | cons d l ih => simp only [List.cons_append, val, ih, List.length_cons, pw_succ]; rw [Nat.mul_add, Nat.mul_assoc, Nat.add_assoc]
theorem val_snoc (a : List Nat) (d : Nat) : val (a ++ [d]) = val a + d * pw a.length := by
  rw [val_append]; simp [val, Nat.mul_comm]
theorem val_lt {a : List Nat} (h : Dig a) : val a < pw a.length := by
  induction a with
  | nil => simp [val, pw]
  | cons d l ih =>
    have h1 := h d (by simp)
    have h2 := ih (fun x hx => h x (by simp [hx]))
    simp only [val, List.length_cons, pw_succ]; omega
theorem val_take_succ (a : List Nat) (k : Nat) : val (a.take (k + 1)) = val (a.take k) + a.getD k 0 * pw k := by
  by_cases h : k < a.length
  · rw [List.take_succ_eq_append_getElem h, val_snoc, List.length_take, Nat.min_eq_left (by omega)]
    simp [List.getD_eq_getElem?_getD, h]
  · rw [List.take_of_length_le (by omega), List.take_of_length_le (by omega)]
    simp [List.getD_eq_getElem?_getD, List.getElem?_eq_none (Nat.not_lt.1 h)]
theorem Norm.nil : Norm [] := ⟨Dig.nil, by simp⟩
theorem Norm.ne {a : List Nat} (h : Norm a) (hn : a ≠ []) : pw (a.length - 1) ≤ val a := by
  rcases List.eq_nil_or_concat a with rfl | ⟨l, d, rfl⟩
  · exact absurd rfl hn
  · have := h.2 d (by simp)
    simp only [List.concat_eq_append, val_snoc, List.length_append, List.length_singleton, Nat.add_sub_cancel]
    have : 1 * pw l.length ≤ d * pw l.length := Nat.mul_le_mul_right _ (by omega)
    omega
theorem Norm.nil_iff {a : List Nat} (h : Norm a) : a = [] ↔ val a = 0 := by
  constructor
  · rintro rfl; rfl
  · intro h0
    apply Classical.byContradiction; intro hn
    have := h.ne hn
    have := pw_pos (a.length - 1)
    omega
theorem Norm.length_le {a : List Nat} (h : Norm a) {k : Nat} (hv : val a < pw k) : a.length ≤ k := by
  apply Classical.byContradiction; intro hk
  have hn : a ≠ [] := by rintro rfl; simp at hk
  have h1 := h.ne hn
  have h2 := pw_mono (a := k) (b := a.length - 1) (by omega)
  omega
theorem Norm.length_lt_val {a b : List Nat} (ha : Norm a) (hb : Norm b) (h : a.length < b.length) : val a < val b := by
  have h1 := val_lt ha.1
  have hn : b ≠ [] := by rintro rfl; simp at h
  have h2 := hb.ne hn
  have h3 := pw_mono (a := a.length) (b := b.length - 1) (by omega)
  omega
theorem dig_inj : ∀ {a b : List Nat}, Dig a → Dig b → a.length = b.length → val a = val b → a = b
  | [], [], _, _, _, _ => rfl
  | [], _ :: _, _, _, h, _ => by simp at h
  | _ :: _, [], _, _, h, _ => by simp at h
  | x :: a, y :: b, ha, hb, hl, hv => by
    have h1 := ha x (by simp)
    have h2 := hb y (by simp)
    simp only [val] at hv
    have e : x = y := by omega
    have e2 : val a = val b := by omega
    rw [e, dig_inj (fun d h => ha d (by simp [h])) (fun d h => hb d (by simp [h])) (by simpa using hl) e2]
theorem Norm.inj {a b : List Nat} (ha : Norm a) (hb : Norm b) (h : val a = val b) : a = b := by
  apply dig_inj ha.1 hb.1 ?_ h
  rcases Nat.lt_trichotomy a.length b.length with g | g | g
  · have := ha.length_lt_val hb g; omega
  · exact g
  · have := hb.length_lt_val ha g; omega
/-- trim: without noughts above -/
def trim (l : List Nat) : List Nat := (l.reverse.dropWhile (· == 0)).reverse
theorem trim_nil : trim [] = [] := rfl
theorem trim_snoc0 (l : List Nat) : trim (l ++ [0]) = trim l := by simp [trim]
theorem trim_snoc (l : List Nat) (d : Nat) (h : d ≠ 0) : trim (l ++ [d]) = l ++ [d] := by
  have : (d == 0) = false := by simp [h]
  simp [trim, this]
theorem trim_take_succ (l : List Nat) (k : Nat) (hk : k < l.length) (h0 : l.getD k 0 = 0) : trim (l.take (k + 1)) = trim (l.take k) := by
  rw [List.take_succ_eq_append_getElem hk]
  have : l[k] = 0 := by simpa [List.getD_eq_getElem?_getD, hk] using h0
  rw [this, trim_snoc0]
theorem trim_take_stop (l : List Nat) (k : Nat) (hk : k < l.length) (h0 : l.getD k 0 ≠ 0) : trim (l.take (k + 1)) = l.take (k + 1) := by
  rw [List.take_succ_eq_append_getElem hk]
  have : l[k] ≠ 0 := by simpa [List.getD_eq_getElem?_getD, hk] using h0
  rw [trim_snoc _ _ this]
theorem trim_spec (l : List Nat) (h : Dig l) : Norm (trim l) ∧ val (trim l) = val l ∧ (trim l).length ≤ l.length := by
  rcases List.eq_nil_or_concat l with rfl | ⟨a, d, rfl⟩
  · exact ⟨Norm.nil, rfl, by simp [trim]⟩
  · simp only [List.concat_eq_append] at h ⊢
    by_cases hd : d = 0
    · subst hd
      rw [trim_snoc0]
      have := trim_spec a (fun x hx => h x (by simp [hx]))
      refine ⟨this.1, by rw [this.2.1, val_snoc]; simp, ?_⟩
      have h3 := this.2.2
      simp only [List.length_append, List.length_singleton]; omega
    · rw [trim_snoc _ _ hd]
      exact ⟨⟨h, fun x hx => by simp at hx; omega⟩, rfl, Nat.le_refl _⟩
termination_by l.length
/-- one step of a sum of digits -/
theorem add_step (out a b : List Nat) (i carry : Nat) (hl : out.length = i) (hinv : val out + carry * pw i = val (a.take i) + val (b.take i)) :
    val (out ++ [(carry + a.getD i 0 + b.getD i 0) % 65536]) + (carry + a.getD i 0 + b.getD i 0) / 65536 * pw (i + 1) = val (a.take (i + 1)) + val (b.take (i + 1)) := by
  rw [val_snoc, hl, val_take_succ, val_take_succ, pw_succ]
  generalize a.getD i 0 = x at *
  generalize b.getD i 0 = y at *
  generalize pw i = P at *
  have h1 : (carry + x + y) % 65536 * P + (carry + x + y) / 65536 * (65536 * P) = (carry + x + y) * P := by
    rw [← Nat.mul_assoc, ← Nat.add_mul]; congr 1; omega
  have h2 : (carry + x + y) * P = carry * P + x * P + y * P := by rw [Nat.add_mul, Nat.add_mul]
  omega
/-- one step of a difference of digits -/
theorem sub_step (out a b : List Nat) (i borrow : Nat) (hb : borrow ≤ 1) (ha : Dig a) (hbd : Dig b) (hl : out.length = i) (hinv : val out + val (b.take i) = val (a.take i) + borrow * pw i) :
    val (out ++ [(65536 + a.getD i 0 - borrow - b.getD i 0) % 65536]) + val (b.take (i + 1)) = val (a.take (i + 1)) + (1 - (65536 + a.getD i 0 - borrow - b.getD i 0) / 65536) * pw (i + 1) := by
  have hx := ha.getD i
  have hy := hbd.getD i
  rw [val_snoc, hl, val_take_succ, val_take_succ, pw_succ]
  generalize a.getD i 0 = x at *
  generalize b.getD i 0 = y at *
  generalize pw i = P at *
  have hv : (65536 + x - borrow - y) / 65536 ≤ 1 := by omega
  have h1 : (65536 + x - borrow - y) % 65536 * P + y * P + borrow * P = x * P + (1 - (65536 + x - borrow - y) / 65536) * (65536 * P) := by
    rw [← Nat.mul_assoc, ← Nat.add_mul, ← Nat.add_mul, ← Nat.add_mul]; congr 1; omega
  omega
/-- digits are compared from the highest on -/
theorem cmp_lt (a b : List Nat) (i : Nat) (ha : Dig a) (hl : a.length = b.length) (hi : i < a.length) (he : a.drop (i + 1) = b.drop (i + 1)) (hlt : a.getD i 0 < b.getD i 0) : val a < val b := by
  have e1 : val a = val (a.take (i + 1)) + pw (i + 1) * val (a.drop (i + 1)) := by
    conv => lhs; rw [← List.take_append_drop (i + 1) a]
    rw [val_append, List.length_take, Nat.min_eq_left (by omega)]
  have e2 : val b = val (b.take (i + 1)) + pw (i + 1) * val (b.drop (i + 1)) := by
    conv => lhs; rw [← List.take_append_drop (i + 1) b]
    rw [val_append, List.length_take, Nat.min_eq_left (by omega)]
  rw [e1, e2, he, val_take_succ, val_take_succ]
  have h1 := val_lt (ha.take i)
  rw [List.length_take, Nat.min_eq_left (by omega)] at h1
  have h3 : (a.getD i 0 + 1) * pw i ≤ b.getD i 0 * pw i := Nat.mul_le_mul_right _ (by omega)
  rw [Nat.add_mul] at h3
  omega
end Go.Big
namespace Go.Big
theorem val_digit (a : List Nat) (j : Nat) (ha : Dig a) : val a / pw j % 65536 = a.getD j 0 := by
  induction a generalizing j with
  | nil => simp [val]
  | cons d l ih =>
    have hd := ha d (by simp)
    have hl : Dig l := fun x hx => ha x (by simp [hx])
    cases j with
    | zero => simp [val, pw]; omega
    | succ j =>
      rw [pw_succ, ← Nat.div_div_eq_div_mul]
      have : val (d :: l) / 65536 = val l := by simp only [val]; omega
      rw [this, ih j hl]; simp
theorem val_bit (a : List Nat) (i : Nat) (ha : Dig a) : val a / 2 ^ i % 2 = a.getD (i / 16) 0 / 2 ^ (i % 16) % 2 := by
  have e : (2 : Nat) ^ i = pw (i / 16) * 2 ^ (i % 16) := by
    unfold pw
    rw [show (65536 : Nat) = 2 ^ 16 from rfl, ← Nat.pow_mul, ← Nat.pow_add]; congr 1; omega
  rw [e, ← Nat.div_div_eq_div_mul, ← val_digit a (i / 16) ha]
  generalize val a / pw (i / 16) = n
  have hk : i % 16 < 16 := Nat.mod_lt _ (by omega)
  generalize i % 16 = k at hk
  have h2 : (65536 : Nat) = 2 ^ k * 2 ^ (16 - k) := by rw [← Nat.pow_add, show k + (16 - k) = 16 from by omega]
  have h3 : (2:Nat) ^ (16 - k) = 2 * 2 ^ (15 - k) := by rw [show 16 - k = (15 - k) + 1 from by omega, Nat.pow_succ, Nat.mul_comm]
  have h4 : n % 65536 / 2 ^ k = n / 2 ^ k % 2 ^ (16 - k) := by rw [h2, Nat.mod_mul_right_div_self]
  rw [h4, h3, Nat.mod_mul_right_mod]
/-- A digit of the quotient is raised. -/
theorem val_set (q : List Nat) (j x : Nat) (hj : j < q.length) : val (q.set j (q.getD j 0 + x)) = val q + x * pw j := by
  induction q generalizing j with
  | nil => simp at hj
  | cons d l ih =>
    cases j with
    | zero => simp [val, pw]; omega
    | succ j =>
      have := ih j (by simpa using hj)
      have e : (d :: l).getD (j + 1) 0 = l.getD j 0 := by simp
      rw [e]
      simp only [List.set_cons_succ, val, this, pw_succ]
      rw [Nat.mul_add, Nat.mul_left_comm 65536 x]; omega
/-- What stands before round i (i + 1 bits are still to come): the quotient of the bits above, the rest. -/
theorem div_step (A b i : Nat) (hb : 0 < b) (left q : Nat) (hleft : left = A / 2 ^ (i + 1) % b) (hq : q = A / 2 ^ (i + 1) / b * 2 ^ (i + 1)) :
    let l2 := 2 * left + A / 2 ^ i % 2
    (b ≤ l2 → l2 - b = A / 2 ^ i % b ∧ q + 2 ^ i = A / 2 ^ i / b * 2 ^ i) ∧ (l2 < b → l2 = A / 2 ^ i % b ∧ q = A / 2 ^ i / b * 2 ^ i) := by
  intro l2
  have hl : l2 = 2 * left + A / 2 ^ i % 2 := rfl
  clear_value l2
  have e1 : A / 2 ^ (i + 1) = A / 2 ^ i / 2 := by rw [Nat.pow_succ, Nat.div_div_eq_div_mul]
  rw [e1] at hleft hq
  have e2 : (2:Nat) ^ (i + 1) = 2 * 2 ^ i := by rw [Nat.pow_succ, Nat.mul_comm]
  rw [e2] at hq
  generalize A / 2 ^ i = N at *
  generalize (2:Nat) ^ i = P at *
  have hN : N = 2 * (N / 2) + N % 2 := by omega
  have hd := Nat.div_add_mod (N / 2) b
  have hlt := Nat.mod_lt (N / 2) hb
  have hl2 : l2 = 2 * (N / 2 % b) + N % 2 := by rw [hl, hleft]
  generalize N / 2 / b = d at *
  generalize N / 2 % b = r at *
  have hNb : N = b * (2 * d) + l2 := by rw [Nat.mul_left_comm]; omega
  constructor
  · intro h
    have h2 : l2 - b < b := by omega
    have hNb' : N = b * (2 * d + 1) + (l2 - b) := by rw [Nat.mul_add]; omega
    have hdiv : N / b = 2 * d + 1 := by rw [hNb', Nat.mul_add_div hb, Nat.div_eq_of_lt h2]
    have hmod : N % b = l2 - b := by rw [hNb', Nat.mul_add_mod, Nat.mod_eq_of_lt h2]
    refine ⟨hmod.symm, ?_⟩
    rw [hdiv, hq, Nat.add_mul]
    have : d * (2 * P) = 2 * d * P := by rw [← Nat.mul_assoc, Nat.mul_comm d 2]
    omega
  · intro h
    have hdiv : N / b = 2 * d := by rw [hNb, Nat.mul_add_div hb, Nat.div_eq_of_lt h, Nat.add_zero]
    have hmod : N % b = l2 := by rw [hNb, Nat.mul_add_mod, Nat.mod_eq_of_lt h]
    refine ⟨hmod.symm, ?_⟩
    rw [hdiv, hq]
    rw [← Nat.mul_assoc, Nat.mul_comm d 2]
/-- The quotient's digits while bits come in from above: digit i / 16 has only bits from i % 16 + 1 on, and all lower digits are nought. -/
def Bits (q : List Nat) (i : Nat) : Prop := Dig q ∧ (∀ j, j < i / 16 → q.getD j 0 = 0) ∧ q.getD (i / 16) 0 % 2 ^ (i % 16) = 0
theorem Bits.start (n : Nat) (i : Nat) : Bits (List.replicate n 0) i := by
  have h0 : ∀ j, (List.replicate n 0).getD j 0 = 0 := by
    intro j; rw [List.getD_eq_getElem?_getD, List.getElem?_replicate]; split <;> rfl
  refine ⟨fun d h => by have := List.eq_of_mem_replicate h; omega, fun j _ => h0 j, by rw [h0]; exact Nat.zero_mod _⟩
theorem getD_set (q : List Nat) (j k x : Nat) (hj : j < q.length) : (q.set j x).getD k 0 = if k = j then x else q.getD k 0 := by
  rw [List.getD_eq_getElem?_getD, List.getElem?_set]
  by_cases h : j = k
  · subst h; simp [hj]
  · rw [if_neg h, if_neg (fun e => h e.symm), List.getD_eq_getElem?_getD]
theorem Bits.down (q : List Nat) (i : Nat) (h : Bits q (i + 1)) : Bits q i := by
  obtain ⟨h1, h2, h3⟩ := h
  by_cases e : (i + 1) % 16 = 0
  · have e1 : (i + 1) / 16 = i / 16 + 1 := by omega
    rw [e1] at h2 h3
    refine ⟨h1, fun j hj => h2 j (by omega), by rw [h2 _ (by omega)]; exact Nat.zero_mod _⟩
  · have e1 : (i + 1) / 16 = i / 16 := by omega
    have e2 : (i + 1) % 16 = i % 16 + 1 := by omega
    rw [e1] at h2 h3
    rw [e2, Nat.pow_succ] at h3
    refine ⟨h1, h2, ?_⟩
    have := Nat.mod_mul_right_mod (q.getD (i / 16) 0) (2 ^ (i % 16)) 2
    rw [h3] at this; rw [← this]; exact Nat.zero_mod _
theorem dig_room (x k : Nat) (hk : k < 16) (hx : x < 65536) (hm : x % 2 ^ (k + 1) = 0) : x + 2 ^ k < 65536 ∧ (x + 2 ^ k) % 2 ^ k = 0 := by
  have h2 : (65536 : Nat) = 2 ^ (k + 1) * 2 ^ (15 - k) := by rw [← Nat.pow_add, show k + 1 + (15 - k) = 16 from by omega]
  have hp : 0 < (2:Nat) ^ k := Nat.pow_pos (by omega)
  have hs : (2:Nat) ^ (k + 1) = 2 * 2 ^ k := by rw [Nat.pow_succ, Nat.mul_comm]
  obtain ⟨c, hc⟩ := Nat.dvd_of_mod_eq_zero hm
  have hc2 : c < 2 ^ (15 - k) := by
    rw [h2, hc] at hx
    exact Nat.lt_of_mul_lt_mul_left hx
  have h4 : 2 ^ (k + 1) * (c + 1) ≤ 65536 := by rw [h2]; exact Nat.mul_le_mul_left _ (by omega)
  rw [Nat.mul_add, ← hc, hs] at h4
  refine ⟨by omega, ?_⟩
  rw [hc, hs, Nat.mul_right_comm, Nat.mul_comm (2 * c), ]
  rw [Nat.add_mod_right, Nat.mul_mod_right]
theorem Bits.set_ (q : List Nat) (i : Nat) (h : Bits q (i + 1)) (hi : i / 16 < q.length) :
    Bits (q.set (i / 16) (q.getD (i / 16) 0 + 2 ^ (i % 16))) i ∧ q.getD (i / 16) 0 + 2 ^ (i % 16) < 65536 := by
  have hz : q.getD (i / 16) 0 % 2 ^ (i % 16 + 1) = 0 := by
    obtain ⟨h1, h2, h3⟩ := h
    by_cases e : (i + 1) % 16 = 0
    · have e1 : (i + 1) / 16 = i / 16 + 1 := by omega
      rw [e1] at h2
      rw [h2 _ (by omega)]; exact Nat.zero_mod _
    · have e1 : (i + 1) / 16 = i / 16 := by omega
      have e2 : (i + 1) % 16 = i % 16 + 1 := by omega
      rw [e1, e2] at h3; exact h3
  have hd := dig_room _ _ (Nat.mod_lt i (by omega)) (h.1.getD (i / 16)) hz
  have hdown := h.down
  refine ⟨⟨?_, ?_, ?_⟩, hd.1⟩
  · intro d hm
    rcases List.mem_or_eq_of_mem_set hm with hm | rfl
    · exact h.1 d hm
    · exact hd.1
  · intro j hj
    rw [getD_set _ _ _ _ hi, if_neg (by omega)]
    exact hdown.2.1 j hj
  · rw [getD_set _ _ _ _ hi, if_pos rfl]; exact hd.2
theorem set_val (q : List Nat) (i : Nat) (hi : i / 16 < q.length) : val (q.set (i / 16) (q.getD (i / 16) 0 + 2 ^ (i % 16))) = val q + 2 ^ i := by
  rw [val_set _ _ _ hi]
  congr 1
  unfold pw
  rw [show (65536 : Nat) = 2 ^ 16 from rfl, ← Nat.pow_mul, ← Nat.pow_add]; congr 1; omega
theorem val_zero (n : Nat) : val (List.replicate n 0) = 0 := by
  induction n with
  | zero => rfl
  | succ n ih => simp [List.replicate_succ, val, ih]
end Go.Big

/- Contracts over slices of digits: trim, cmp. -/
namespace Go.Proofs.Ytgbiimoednmlgaa
set_option linter.unusedVariables false
set_option linter.unusedSimpArgs false
open Go.RowKit
theorem ret_int {k : IntKind} {a b : Int} (h : a = b) : Ending.returned (.int k a) = .returned (.int k b) := by rw [h]
/-- A slice of digits: its elements are l. -/
def Nums (w : World) (a : Option Addr) (len cap : Nat) (l : List Nat) : Prop :=
  l.length = len ∧ len ≤ cap ∧ cap ≤ 9223372036854775807 ∧ (0 < len → ∃ b o, a = some ⟨b, o, none⟩ ∧ b < w.heap.size ∧ ∀ i x, l[i]? = some x → w.cell? ⟨b, o + i, none⟩ = some (.int .u64 (x : Nat)))
theorem Nums.below {w w' : World} {a : Option Addr} {len cap : Nat} {l : List Nat} (h : Nums w a len cap l) (hb : Below w.heap.size w w') : Nums w' a len cap l := by
  obtain ⟨h1, h2, h2', h3⟩ := h
  refine ⟨h1, h2, h2', fun hl => ?_⟩
  obtain ⟨b, o, ha, hlt, hc⟩ := h3 hl
  exact ⟨b, o, ha, Nat.lt_of_lt_of_le hlt hb.size, fun i x hx => (hb.cell (p := ⟨b, o + i, none⟩) hlt).trans (hc i x hx)⟩
theorem Nums.take {w : World} {a : Option Addr} {len cap : Nat} {l : List Nat} (h : Nums w a len cap l) (k : Nat) (hk : k ≤ len) : Nums w a k cap (l.take k) := by
  obtain ⟨h1, h2, h2', h3⟩ := h
  refine ⟨by simp; omega, by omega, h2', fun hl => ?_⟩
  obtain ⟨b, o, ha, hlt, hc⟩ := h3 (by omega)
  refine ⟨b, o, ha, hlt, fun i x hx => hc i x ?_⟩
  rw [List.getElem?_take] at hx
  split at hx
  · exact hx
  · cases hx
theorem Nums.at {w : World} {a : Option Addr} {len cap : Nat} {l : List Nat} (h : Nums w a len cap l) (k : Nat) (hk : k < len) : ∃ b o, a = some ⟨b, o, none⟩ ∧ b < w.heap.size ∧ w.cell? ⟨b, o + k, none⟩ = some (.int .u64 (l.getD k 0 : Nat)) := by
  obtain ⟨h1, h2, h2', h3⟩ := h
  obtain ⟨b, o, ha, hlt, hc⟩ := h3 (by omega)
  refine ⟨b, o, ha, hlt, ?_⟩
  rw [hc k (l.getD k 0) (by rw [List.getD_eq_getElem?_getD, List.getElem?_eq_getElem (by omega)]; rfl)]
theorem trim_len (l : List Nat) : Big.trim l = l.take (Big.trim l).length := by
  unfold Big.trim
  have h := List.dropWhile_suffix (fun x : Nat => x == 0) (l := l.reverse)
  have h2 : (l.reverse.dropWhile (· == 0)).reverse <+: l := by
    have := List.reverse_prefix.2 h
    rwa [List.reverse_reverse] at this
  exact List.prefix_iff_eq_take.1 h2
theorem trim_le (l : List Nat) : (Big.trim l).length ≤ l.length := by
  rw [trim_len l, List.length_take]; exact Nat.min_le_right _ _
def lenOf : Value → Nat | .slice _ n _ => n | _ => 0
set_option maxRecDepth 100000 in
set_option maxHeartbeats 400000 in
theorem trim_any (a : Option Addr) (len cap : Nat) (l : List Nat) (w : World) (hl : Nums w a len cap l) :
    Calls Try.prog 71 #[.slice a len cap] w fun e w' => e = .returned (.slice a (Big.trim l).length cap) ∧ w = w' := by
  have HL := Lib.hid hl
  have h1 := hl.1
  have h2 := hl.2.1
  have h3 := hl.2.2.1
  have H1 := Lib.hid h1
  clear hl h1
  go_enter Try.func71, Try.ntmps71
  go_wp2_with fail
  go_loop [0] (fun i => ∃ k : Nat, i = .slice a k cap ∧ k ≤ len ∧ Hid (Big.trim l = Big.trim (l.take k))) (fun i => lenOf i)
  case atStart => exact ⟨len, rfl, Nat.le_refl _, by show _ = _; rw [List.take_of_length_le (by rw [H1.out]; exact Nat.le_refl _)]⟩
  case round =>
    obtain ⟨k, rfl, hk, HX⟩ := hrel
    cases k with
    | zero =>
      have FIN : Hid ((Big.trim l).length = 0) := by show _ = _; rw [HX.out]; rfl
      go_wp2
      go_ret
      rw [FIN.out]; exact ⟨rfl, rfl⟩
    | succ j =>
      obtain ⟨b, o, rfl, hb, hc⟩ := HL.out.at j (by omega)
      have hj : j < l.length := by rw [H1.out]; omega
      have T0 := Lib.hid (Big.trim_take_succ l j hj)
      have T1 := Lib.hid (Big.trim_take_stop l j hj)
      clear hj
      generalize l.getD j 0 = x at *
      by_cases hx : x = 0
      · have HN : Hid (Big.trim l = Big.trim (l.take j)) := by show _ = _; rw [HX.out, T0.out hx]
        subst hx
        go_wp2
        go_round
        case rel => exact ⟨j, by go_num, by omega, HN⟩
        case measure => simp [lenOf]
      · have hx2 : ((x : Int) == 0) = false := by simp [hx]
        have FIN : Hid ((Big.trim l).length = j + 1) := by
          show _ = _
          rw [HX.out, T1.out hx, List.length_take, H1.out]; omega
        clear hx
        go_wp2
        go_ret
        rw [FIN.out]; exact ⟨rfl, rfl⟩
end Go.Proofs.Ytgbiimoednmlgaa

namespace Go.Proofs.Ytgbiimoednmlgaa
set_option linter.unusedVariables false
set_option linter.unusedSimpArgs false
open Go.RowKit
def cmpI (a b : List Nat) : Int := if Big.val a < Big.val b then -1 else if Big.val a = Big.val b then 0 else 1
theorem cmp_bel (w : World) (n : Nat) : Below w.heap.size w (w.drewN n) := below_drewN (Below.refl _ _) n
set_option maxRecDepth 100000 in
set_option maxHeartbeats 1000000 in
theorem cmp_any (a : Option Addr) (len cap : Nat) (l : List Nat) (a' : Option Addr) (len' cap' : Nat) (l' : List Nat) (w : World) (hl : Nums w a len cap l) (hl' : Nums w a' len' cap' l') (hn : Big.Norm l) (hn' : Big.Norm l') :
    Calls Try.prog 74 #[.slice a len cap, .slice a' len' cap'] w fun e w' => e = .returned (.int .i64 (cmpI l l')) ∧ Below w.heap.size w w' := by
  have HR := Lib.hid (fun (x : Int) (h : cmpI l l' = x) => (ret_int h.symm : Ending.returned (.int .i64 x) = .returned (.int .i64 (cmpI l l'))))
  have h2 := hl.2.1
  have h3 := hl.2.2.1
  have h2' := hl'.2.1
  have h3' := hl'.2.2.1
  have HL := Lib.hid hl
  have HL' := Lib.hid hl'
  rcases Nat.lt_trichotomy len len' with hlt | rfl | hlt
  · have FIN := Lib.hid (HR.out (-1) (by unfold cmpI; rw [if_pos (hn.length_lt_val hn' (by rw [hl.1, hl'.1]; exact hlt))]))
    have t1 : ((len : Int) == (len' : Int)) = false := by simp; omega
    clear hl hl' hn hn'
    go_enter Try.func74, Try.ntmps74
    go_wp2
    go_ret
    exact ⟨FIN.out, Below.refl _ _⟩
  · have HN := Lib.hid hn
    have HN' := Lib.hid hn'
    have HE := Lib.hid (show l.length = l'.length by rw [hl.1, hl'.1])
    have H1 := Lib.hid hl.1
    clear hl hl' hn hn'
    go_enter Try.func74, Try.ntmps74
    go_wp2_with fail
    go_loopw [5] (fun i wr => ∃ k : Nat, i = .int .i64 ((k : Int) - 1) ∧ k ≤ len ∧ Hid (l.drop k = l'.drop k) ∧ Below w.heap.size w wr) (fun i _ => (intOf i + 1).toNat)
    case atStart => exact ⟨len, rfl, Nat.le_refl _, by show _ = _; rw [List.drop_of_length_le (by rw [H1.out]; exact Nat.le_refl _), List.drop_of_length_le (by rw [← HE.out, H1.out]; exact Nat.le_refl _)], Below.refl _ _⟩
    case round =>
      obtain ⟨k, rfl, hk, HX, hbel⟩ := hrel
      cases k with
      | zero =>
        have FIN := Lib.hid (HR.out 0 (by
          have e : l = l' := by simpa using HX.out
          unfold cmpI; rw [e, if_neg (Nat.lt_irrefl _), if_pos rfl]))
        go_wp2
        go_ret
        exact ⟨FIN.out, hbel⟩
      | succ j =>
        obtain ⟨b, o, rfl, hb, hc⟩ := (HL.out.below hbel).at j (by omega)
        obtain ⟨b', o', rfl, hb', hc'⟩ := (HL'.out.below hbel).at j (by omega)
        have hj : j < l.length := by rw [H1.out]; omega
        have C1 := Lib.hid (Big.cmp_lt l l' j HN.out.1 HE.out hj HX.out)
        have C2 := Lib.hid (Big.cmp_lt l' l j HN'.out.1 HE.out.symm (by rw [← HE.out]; exact hj) HX.out.symm)
        have hd : Hid (l.getD j 0 = l'.getD j 0 → l.drop j = l'.drop j) := by
          show _ → _
          intro h
          have hj' : j < l'.length := by rw [← HE.out]; exact hj
          rw [List.drop_eq_getElem_cons hj, List.drop_eq_getElem_cons hj', HX.out]
          rw [List.getD_eq_getElem?_getD, List.getD_eq_getElem?_getD, List.getElem?_eq_getElem hj, List.getElem?_eq_getElem hj'] at h
          simp at h
          rw [h]
        clear hj
        generalize l.getD j 0 = x at *
        generalize l'.getD j 0 = y at *
        rcases Nat.lt_trichotomy x y with hxy | rfl | hxy
        · have FIN := Lib.hid (HR.out (-1) (by unfold cmpI; rw [if_pos (C1.out hxy)]))
          go_wp2_with fail
          go_quiet (fail)
          go_wp2
          go_ret
          exact ⟨FIN.out, below_drewN hbel _⟩
        · have HN2 := Lib.hid (hd.out rfl)
          go_wp2_with fail
          go_quiet (fail)
          go_wp2_with fail
          go_quiet (fail)
          go_wp2_with fail
          go_roundw
          case rel => exact ⟨j, by go_num, by omega, HN2, below_drewN hbel _⟩
          case measure => simp [intOf]
        · have FIN := Lib.hid (HR.out 1 (by unfold cmpI; have := C2.out hxy; rw [if_neg (by omega), if_neg (by omega)]))
          go_wp2_with fail
          go_quiet (fail)
          go_wp2_with fail
          go_quiet (fail)
          go_wp2
          go_ret
          exact ⟨FIN.out, below_drewN (below_drewN hbel _) _⟩
  · have hv := hn'.length_lt_val hn (by rw [hl.1, hl'.1]; exact hlt)
    have FIN := Lib.hid (HR.out 1 (by unfold cmpI; rw [if_neg (by omega), if_neg (by omega)]))
    have t1 : ((len : Int) == (len' : Int)) = false := by simp; omega
    clear hl hl' hn hn' hv
    go_enter Try.func74, Try.ntmps74
    go_wp2
    go_ret
    exact ⟨FIN.out, Below.refl _ _⟩
end Go.Proofs.Ytgbiimoednmlgaa

namespace Go.Proofs.Ytgbiimoednmlgaa
set_option linter.unusedVariables false
set_option linter.unusedSimpArgs false
open Go.RowKit
theorem infoU64 : (Try.prog.info? 113).map (fun i => (i.zero, i.size, i.bytes)) = some (some (.int .u64 0), 1, 8) := by kernel_rfl
def dv (l : List Nat) : List Value := l.map (fun d => Value.int .u64 (d : Nat))
theorem dv_one (l : List Nat) : ∀ u ∈ dv l, u.oneCell' = true := by intro u h; unfold dv at h; simp at h; obtain ⟨_, _, rfl⟩ := h; rfl
theorem dv_app (a b : List Nat) : dv a ++ dv b = dv (a ++ b) := by simp [dv]
theorem own_nums {w0 w : World} {v : Value} {n : Nat} {l : List Nat} (h : Mem.Own w0 w 113 1 v n (dv l)) (hn : l.length = n) : ∃ a cap, v = .slice a n cap ∧ Nums w a n cap l := by
  have hmx : maxLen = 9223372036854775807 := by decide
  rcases h.own.2 with ⟨rfl, rfl⟩ | ⟨g, cap, cur, rfl, h1, h2, h3, h4, h5, h6⟩
  · exact ⟨none, 0, rfl, hn, by omega, by omega, fun h => absurd h (by omega)⟩
  · refine ⟨_, cap, rfl, hn, h3, by omega, fun hp => ⟨g, 0, rfl, lt_of_block h2, fun i x hx => ?_⟩⟩
    have hi : i < l.length := (List.getElem?_eq_some_iff.1 hx).1
    rw [Nat.zero_add, h.cell i (by omega)]
    simp [dv, hx]
theorem digs_cells (w : World) (x : Nat) (z : Int) (hz : z = (x : Int)) : ∀ j u, (dv [x])[j]? = some u → (w.alloc (.cells #[.int .u64 z] 113)).cell? ((⟨w.heap.size, 0, none⟩ : Addr).add j) = some u := by
  subst hz; exact Mem.lit_cells w #[.int .u64 (x : Int)] 113
theorem getD_end (l : List Nat) (k : Nat) (h : l.length ≤ k) : l.getD k 0 = 0 := by
  rw [List.getD_eq_getElem?_getD, List.getElem?_eq_none h]; rfl
theorem mlen : maxLen = 9223372036854775807 := by decide
set_option maxRecDepth 100000 in
set_option maxHeartbeats 4000000 in
theorem sub_in (a : Option Addr) (len cap : Nat) (l : List Nat) (a' : Option Addr) (len' cap' : Nat) (l' : List Nat) (w : World) (hl : Nums w a len cap l) (hl' : Nums w a' len' cap' l') (hn : Big.Dig l) (hn' : Big.Dig l') (hm : len ≤ 1000000) (hlen : len' ≤ len) :
    Calls Try.prog 75 #[.slice a len cap, .slice a' len' cap'] w fun e w' => (∃ out b cap2, e = .returned (.slice b (Big.trim out).length cap2) ∧ Nums w' b (Big.trim out).length cap2 (Big.trim out) ∧ Big.Dig out ∧ Hid (∃ c, c ≤ 1 ∧ Big.val out + Big.val l' = Big.val l + c * Big.pw len) ∧ out.length = len) ∧ Below w.heap.size w w' := by
  have h2 := hl.2.1
  have h3 := hl.2.2.1
  have h2' := hl'.2.1
  have h3' := hl'.2.2.1
  have HL := Lib.hid hl
  have HL' := Lib.hid hl'
  have HD := Lib.hid hn
  have HD' := Lib.hid hn'
  have H1 := Lib.hid hl.1
  have H1' := Lib.hid hl'.1
  have HS := Lib.hid (fun out i borrow hb hl hinv => Big.sub_step out l l' i borrow hb hn hn' hl hinv)
  clear hl hl' hn hn'
  go_enter Try.func75, Try.ntmps75
  go_wp2_with fail
  go_loopw [5, 6, 7] (fun v c i wr => ∃ (k b : Nat) (out : List Nat), i = .int .i64 (k : Nat) ∧ c = .int .u64 (b : Nat) ∧ k ≤ len ∧ b ≤ 1 ∧ Hid (Mem.Own w wr 113 1 v k (dv out)) ∧ Hid (out.length = k) ∧ Hid (Big.Dig out) ∧ Hid (Big.val out + Big.val (l'.take k) = Big.val (l.take k) + b * Big.pw k)) (fun _ _ i _ => len - (intOf i).toNat)
  case atStart => exact ⟨0, 0, [], rfl, rfl, Nat.zero_le _, by omega, Mem.Own.nil (Below.refl _ _), rfl, Big.Dig.nil, by show _ = _; simp [Big.val]⟩
  case round =>
    obtain ⟨k, b, out, rfl, rfl, hk, hb, HO, HK, HG, HI⟩ := hrel
    have hbel := HO.out.below
    by_cases hlt : k < len
    · obtain ⟨bb, o, rfl, hbb, hc⟩ := (HL.out.below hbel).at k hlt
      have hx := HD.out.getD k
      have HS2 := Lib.hid (HS.out out k b hb HK.out HI.out)
      have hD : Hid (Big.Dig (out ++ [(65536 + l.getD k 0 - b - l'.getD k 0) % 65536])) := by
        refine HG.out.append ?_
        intro d hd; simp at hd; subst hd; exact Nat.mod_lt _ (by decide)
      have hy := HD'.out.getD k
      by_cases hlt' : k < len'
      · obtain ⟨bb', o', rfl, hbb', hc'⟩ := (HL'.out.below hbel).at k hlt'
        clear HS HD HD'
        generalize l.getD k 0 = x at *
        generalize l'.getD k 0 = y at *
        go_wp2_with (at_builtin; refine Mem.ap infoU64 Try.underlying84 rfl (by decide) rfl (.tmp 32) (.tmp 35) rfl rfl (HO.out.alloc _) ⟨wr.heap.size, 0, none⟩ 1 1 (dv [(65536 + x - b - y) % 65536]) rfl rfl (digs_cells _ _ _ (by omega)) (dv_one _) (by rw [mlen]; omega) (by omega) ?_; intro v' w' o' _ _ _; rw [dv_app] at o')
        go_roundw
        case rel => exact ⟨k + 1, 1 - (65536 + x - b - y) / 65536, out ++ [(65536 + x - b - y) % 65536], by go_num, by congr 1; omega, by omega, by omega, o', by show _ = _; rw [List.length_append, HK.out]; rfl, hD, HS2.out⟩
        case measure => simp [intOf]; omega
      · have e0 := getD_end l' k (by rw [H1'.out]; omega)
        rw [e0] at HS2 hD
        clear HS HD HD' e0 hy
        generalize l.getD k 0 = x at *
        go_wp2_with (at_builtin; refine Mem.ap infoU64 Try.underlying84 rfl (by decide) rfl (.tmp 32) (.tmp 35) rfl rfl (HO.out.alloc _) ⟨wr.heap.size, 0, none⟩ 1 1 (dv [(65536 + x - b - 0) % 65536]) rfl rfl (digs_cells _ _ _ (by omega)) (dv_one _) (by rw [mlen]; omega) (by omega) ?_; intro v' w' o' _ _ _; rw [dv_app] at o')
        go_roundw
        case rel => exact ⟨k + 1, 1 - (65536 + x - b - 0) / 65536, out ++ [(65536 + x - b - 0) % 65536], by go_num, by congr 1; omega, by omega, by omega, o', by show _ = _; rw [List.length_append, HK.out]; rfl, hD, HS2.out⟩
        case measure => simp [intOf]; omega
    · have FIN : Hid (∃ c, c ≤ 1 ∧ Big.val out + Big.val l' = Big.val l + c * Big.pw len) := by
        have : k = len := by omega
        subst this
        refine ⟨b, hb, ?_⟩
        have h := HI.out
        rw [List.take_of_length_le (by rw [H1'.out]; exact hlen), List.take_of_length_le (by rw [H1.out]; exact Nat.le_refl _)] at h
        exact h
      obtain ⟨ao, co, rfl, hno⟩ := own_nums HO.out HK.out
      have HNO := Lib.hid hno
      have hke := Lib.hid (show k = len by omega)
      clear hno
      go_wp2_with fail
      refine (trim_any _ _ _ out _ HNO.out).mono ?_; rintro e w' ⟨rfl, rfl⟩
      go_wp2
      go_ret
      refine ⟨⟨out, _, _, rfl, ?_, HG.out, FIN, by rw [HK.out, hke.out]⟩, hbel⟩
      have := HNO.out.take (Big.trim out).length (by rw [← HK.out]; exact trim_le out)
      rw [← trim_len] at this
      exact this
end Go.Proofs.Ytgbiimoednmlgaa

namespace Go.Proofs.Ytgbiimoednmlgaa
set_option linter.unusedVariables false
set_option linter.unusedSimpArgs false
open Go.RowKit
set_option maxRecDepth 100000 in
set_option maxHeartbeats 4000000 in
theorem add_in (a : Option Addr) (len cap : Nat) (l : List Nat) (a' : Option Addr) (len' cap' : Nat) (l' : List Nat) (w : World) (hl : Nums w a len cap l) (hl' : Nums w a' len' cap' l') (hn : Big.Dig l) (hn' : Big.Dig l') (hm : len ≤ 1000000) (hm' : len' ≤ 1000000) :
    Calls Try.prog 73 #[.slice a len cap, .slice a' len' cap'] w fun e w' => (∃ out b cap2, e = .returned (.slice b (Big.trim out).length cap2) ∧ Nums w' b (Big.trim out).length cap2 (Big.trim out) ∧ Big.Dig out ∧ Hid (Big.val out = Big.val l + Big.val l') ∧ out.length ≤ 1000001) ∧ Below w.heap.size w w' := by
  have h2 := hl.2.1
  have h3 := hl.2.2.1
  have h2' := hl'.2.1
  have h3' := hl'.2.2.1
  have HL := Lib.hid hl
  have HL' := Lib.hid hl'
  have HD := Lib.hid hn
  have HD' := Lib.hid hn'
  have H1 := Lib.hid hl.1
  have H1' := Lib.hid hl'.1
  have HS := Lib.hid (fun out i carry hl hinv => Big.add_step out l l' i carry hl hinv)
  clear hl hl' hn hn'
  obtain ⟨mx, hmx, m1, m2⟩ : ∃ mx, mx ≤ 1000000 ∧ len ≤ mx ∧ len' ≤ mx := ⟨max len len', by omega, by omega, by omega⟩
  go_enter Try.func73, Try.ntmps73
  go_wp2_with fail
  go_loopw [5, 6, 7] (fun v c i wr => ∃ (k b : Nat) (out : List Nat), i = .int .i64 (k : Nat) ∧ c = .int .u64 (b : Nat) ∧ k ≤ mx + 1 ∧ b ≤ 1 ∧ (mx < k → b = 0) ∧ Hid (Mem.Own w wr 113 1 v k (dv out)) ∧ Hid (out.length = k) ∧ Hid (Big.Dig out) ∧ Hid (Big.val out + b * Big.pw k = Big.val (l.take k) + Big.val (l'.take k))) (fun _ _ i _ => mx + 1 - (intOf i).toNat)
  case atStart => exact ⟨0, 0, [], rfl, rfl, Nat.zero_le _, by omega, by omega, Mem.Own.nil (Below.refl _ _), rfl, Big.Dig.nil, by show _ = _; simp [Big.val]⟩
  case round =>
    obtain ⟨k, b, out, rfl, rfl, hk, hb, hbk, HO, HK, HG, HI⟩ := hrel
    have hbel := HO.out.below
    have hx := HD.out.getD k
    have hy := HD'.out.getD k
    have HS2 := Lib.hid (HS.out out k b HK.out HI.out)
    have hD : Hid (Big.Dig (out ++ [(b + l.getD k 0 + l'.getD k 0) % 65536])) := by
      refine HG.out.append ?_
      intro d hd; simp at hd; subst hd; exact Nat.mod_lt _ (by decide)
    by_cases hlt : k < len
    · obtain ⟨bb, o, rfl, hbb, hc⟩ := (HL.out.below hbel).at k hlt
      by_cases hlt' : k < len'
      · obtain ⟨bb', o', rfl, hbb', hc'⟩ := (HL'.out.below hbel).at k hlt'
        clear HS HD HD'
        generalize l.getD k 0 = x at *
        generalize l'.getD k 0 = y at *
        go_wp2_with (at_builtin; refine Mem.ap infoU64 Try.underlying84 rfl (by decide) rfl (.tmp 46) (.tmp 49) rfl rfl (HO.out.alloc _) ⟨wr.heap.size, 0, none⟩ 1 1 (dv [(b + x + y) % 65536]) rfl rfl (digs_cells _ _ _ (by omega)) (dv_one _) (by rw [mlen]; omega) (by omega) ?_; intro v' w' o' _ _ _; rw [dv_app] at o')
        go_roundw
        case rel => exact ⟨k + 1, (b + x + y) / 65536, out ++ [(b + x + y) % 65536], by go_num, by first | rfl | (congr 1; omega), by omega, by omega, by omega, o', by show _ = _; rw [List.length_append, HK.out]; rfl, hD, HS2.out⟩
        case measure => simp [intOf]; omega
      · have e0 := getD_end l' k (by rw [H1'.out]; omega)
        rw [e0] at HS2 hD
        clear HS HD HD' e0 hy
        generalize l.getD k 0 = x at *
        go_wp2_with (at_builtin; refine Mem.ap infoU64 Try.underlying84 rfl (by decide) rfl (.tmp 46) (.tmp 49) rfl rfl (HO.out.alloc _) ⟨wr.heap.size, 0, none⟩ 1 1 (dv [(b + x + 0) % 65536]) rfl rfl (digs_cells _ _ _ (by omega)) (dv_one _) (by rw [mlen]; omega) (by omega) ?_; intro v' w' o' _ _ _; rw [dv_app] at o')
        go_roundw
        case rel => exact ⟨k + 1, (b + x + 0) / 65536, out ++ [(b + x + 0) % 65536], by go_num, by first | rfl | (congr 1; omega), by omega, by omega, by omega, o', by show _ = _; rw [List.length_append, HK.out]; rfl, hD, HS2.out⟩
        case measure => simp [intOf]; omega
    · have e0 := getD_end l k (by rw [H1.out]; omega)
      rw [e0] at HS2 hD
      clear e0 hx
      by_cases hlt' : k < len'
      · obtain ⟨bb', o', rfl, hbb', hc'⟩ := (HL'.out.below hbel).at k hlt'
        clear HS HD HD'
        generalize l'.getD k 0 = y at *
        go_wp2_with (at_builtin; refine Mem.ap infoU64 Try.underlying84 rfl (by decide) rfl (.tmp 46) (.tmp 49) rfl rfl (HO.out.alloc _) ⟨wr.heap.size, 0, none⟩ 1 1 (dv [(b + 0 + y) % 65536]) rfl rfl (digs_cells _ _ _ (by omega)) (dv_one _) (by rw [mlen]; omega) (by omega) ?_; intro v' w' o' _ _ _; rw [dv_app] at o')
        go_roundw
        case rel => exact ⟨k + 1, (b + 0 + y) / 65536, out ++ [(b + 0 + y) % 65536], by go_num, by first | rfl | (congr 1; omega), by omega, by omega, by omega, o', by show _ = _; rw [List.length_append, HK.out]; rfl, hD, HS2.out⟩
        case measure => simp [intOf]; omega
      · have e0 := getD_end l' k (by rw [H1'.out]; omega)
        rw [e0] at HS2 hD
        clear HS HD HD' e0 hy
        by_cases hb1 : b = 1
        · subst hb1
          go_wp2_with (at_builtin; refine Mem.ap infoU64 Try.underlying84 rfl (by decide) rfl (.tmp 46) (.tmp 49) rfl rfl (HO.out.alloc _) ⟨wr.heap.size, 0, none⟩ 1 1 (dv [(1 + 0 + 0) % 65536]) rfl rfl (digs_cells _ _ _ (by omega)) (dv_one _) (by rw [mlen]; omega) (by omega) ?_; intro v' w' o' _ _ _; rw [dv_app] at o')
          go_roundw
          case rel => exact ⟨k + 1, (1 + 0 + 0) / 65536, out ++ [(1 + 0 + 0) % 65536], by go_num, by first | rfl | (congr 1; omega), by omega, by omega, by omega, o', by show _ = _; rw [List.length_append, HK.out]; rfl, hD, HS2.out⟩
          case measure => simp [intOf]; omega
        · obtain rfl : b = 0 := by omega
          have FIN : Hid (Big.val out = Big.val l + Big.val l') := by
            have h := HI.out
            rw [List.take_of_length_le (by rw [H1.out]; omega), List.take_of_length_le (by rw [H1'.out]; omega)] at h
            show _ = _
            omega
          obtain ⟨ao, co, rfl, hno⟩ := own_nums HO.out HK.out
          have HNO := Lib.hid hno
          clear hno
          go_wp2_with fail
          refine (trim_any _ _ _ out _ HNO.out).mono ?_; rintro e w' ⟨rfl, rfl⟩
          go_wp2
          go_ret
          refine ⟨⟨out, _, _, rfl, ?_, HG.out, FIN, by rw [HK.out]; omega⟩, hbel⟩
          have := HNO.out.take (Big.trim out).length (by rw [← HK.out]; exact trim_le out)
          rw [← trim_len] at this
          exact this
end Go.Proofs.Ytgbiimoednmlgaa

namespace Go.Proofs.Ytgbiimoednmlgaa
set_option linter.unusedVariables false
set_option linter.unusedSimpArgs false
open Go.RowKit
/-- A slice that reads as the digits of n. -/
def MagR (w : World) (v : Value) (n : Nat) : Prop := ∃ a len cap l, v = .slice a len cap ∧ Nums w a len cap l ∧ Big.Norm l ∧ Big.val l = n
/-- A number with its sign. -/
def sg (neg : Bool) (n : Nat) : Int := if neg then -(n : Int) else n
def BigR (w : World) (v : Value) (z : Int) : Prop := ∃ m, v = .agg #[.bool (decide (z < 0)), m] ∧ MagR w m z.natAbs
theorem MagR.below {w w' : World} {v : Value} {n : Nat} (h : MagR w v n) (hb : Below w.heap.size w w') : MagR w' v n := by
  obtain ⟨a, len, cap, l, rfl, h1, h2, h3⟩ := h
  exact ⟨a, len, cap, l, rfl, h1.below hb, h2, h3⟩
theorem BigR.below {w w' : World} {v : Value} {n : Int} (h : BigR w v n) (hb : Below w.heap.size w w') : BigR w' v n := by
  obtain ⟨m, rfl, h1⟩ := h
  exact ⟨m, rfl, h1.below hb⟩
theorem MagR.small {w : World} {a : Option Addr} {len cap : Nat} {l : List Nat} {k : Nat} (h : Nums w a len cap l) (hn : Big.Norm l) (hv : Big.val l < Big.pw k) : len ≤ k := by
  rw [← h.1]; exact hn.length_le hv
theorem MagR.trim {w : World} {b : Option Addr} {cap : Nat} {out : List Nat} (h : Nums w b (Big.trim out).length cap (Big.trim out)) (hd : Big.Dig out) : MagR w (.slice b (Big.trim out).length cap) (Big.val out) :=
  ⟨_, _, _, _, rfl, h, (Big.trim_spec out hd).1, (Big.trim_spec out hd).2.1⟩
theorem add_any (u v : Value) (m n : Nat) (w : World) (hu : MagR w u m) (hv : MagR w v n) (bm : m < Big.pw 1000000) (bn : n < Big.pw 1000000) :
    Calls Try.prog 73 #[u, v] w fun e w' => (∃ r, e = .returned r ∧ MagR w' r (m + n)) ∧ Below w.heap.size w w' := by
  obtain ⟨a, len, cap, l, rfl, h1, h2, rfl⟩ := hu
  obtain ⟨a', len', cap', l', rfl, h1', h2', rfl⟩ := hv
  refine (add_in a len cap l a' len' cap' l' w h1 h1' h2.1 h2'.1 (MagR.small h1 h2 bm) (MagR.small h1' h2' bn)).mono ?_
  rintro e w' ⟨⟨out, b, cap2, rfl, hn, hd, hv, _⟩, hb⟩
  exact ⟨⟨_, rfl, by rw [← hv.out]; exact MagR.trim hn hd⟩, hb⟩
theorem sub_any (u v : Value) (m n : Nat) (w : World) (hu : MagR w u m) (hv : MagR w v n) (bm : m < Big.pw 1000000) (hle : n ≤ m) :
    Calls Try.prog 75 #[u, v] w fun e w' => (∃ r, e = .returned r ∧ MagR w' r (m - n)) ∧ Below w.heap.size w w' := by
  obtain ⟨a, len, cap, l, rfl, h1, h2, rfl⟩ := hu
  obtain ⟨a', len', cap', l', rfl, h1', h2', rfl⟩ := hv
  have hl : len' ≤ len := by
    rcases Nat.lt_or_ge len len' with h | h
    · have := h2.length_lt_val h2' (by rw [h1.1, h1'.1]; exact h); omega
    · exact h
  refine (sub_in a len cap l a' len' cap' l' w h1 h1' h2.1 h2'.1 (MagR.small h1 h2 bm) hl).mono ?_
  rintro e w' ⟨⟨out, b, cap2, rfl, hn, hd, hv, hlo⟩, hb⟩
  refine ⟨⟨_, rfl, ?_⟩, hb⟩
  have hlt := Big.val_lt hd
  obtain ⟨c, hc, hv⟩ := hv.out
  rw [hlo] at hlt
  have hc0 : c = 0 := by
    rcases Nat.eq_zero_or_pos c with h | h
    · exact h
    · have : c = 1 := by omega
      subst this; omega
  subst hc0
  have e : Big.val out = Big.val l - Big.val l' := by omega
  rw [← e]; exact MagR.trim hn hd
def cmpN (m n : Nat) : Int := if m < n then -1 else if m = n then 0 else 1
theorem cmpm_any (u v : Value) (m n : Nat) (w : World) (hu : MagR w u m) (hv : MagR w v n) :
    Calls Try.prog 74 #[u, v] w fun e w' => e = .returned (.int .i64 (cmpN m n)) ∧ Below w.heap.size w w' := by
  obtain ⟨a, len, cap, l, rfl, h1, h2, rfl⟩ := hu
  obtain ⟨a', len', cap', l', rfl, h1', h2', rfl⟩ := hv
  exact cmp_any a len cap l a' len' cap' l' w h1 h1' h2 h2'
theorem MagR.zero {w : World} {a : Option Addr} {len cap n : Nat} {l : List Nat} (h1 : Nums w a len cap l) (h2 : Big.Norm l) (h3 : Big.val l = n) : len = 0 ↔ n = 0 := by
  rw [← h3, ← h2.nil_iff, ← h1.1]; exact List.length_eq_zero_iff
theorem sg_lt (neg : Bool) (n : Nat) : decide (sg neg n < 0) = (neg && decide (0 < n)) := by
  unfold sg; cases neg <;> simp <;> omega
theorem sg_abs (neg : Bool) (n : Nat) : (sg neg n).natAbs = n := by
  unfold sg; cases neg <;> simp
theorem sign_any (neg : Bool) (v : Value) (n : Nat) (w : World) (hv : MagR w v n) :
    Calls Try.prog 72 #[.bool neg, v] w fun e w' => (∃ r, e = .returned r ∧ BigR w' r (sg neg n)) ∧ Below w.heap.size w w' := by
  obtain ⟨a, len, cap, l, rfl, h1, h2, h3⟩ := hv
  have hz := MagR.zero h1 h2 h3
  have HM := Lib.hid (show MagR w (.slice a len cap) n from ⟨a, len, cap, l, rfl, h1, h2, h3⟩)
  have HF := Lib.hid (fun (b : Bool) (w' : World) (hb : Below w.heap.size w w') (he : decide (sg neg n < 0) = b) =>
    (⟨⟨_, rfl, ⟨.slice a len cap, by rw [he], by rw [sg_abs]; exact HM.out.below hb⟩⟩, hb⟩ : (∃ r, Ending.returned (.agg #[.bool b, .slice a len cap]) = .returned r ∧ BigR w' r (sg neg n)) ∧ Below w.heap.size w w'))
  have HE := Lib.hid (sg_lt neg n)
  have hl := h1.2.1
  have hl2 := h1.2.2.1
  clear h1 h2 h3
  cases neg with
  | false =>
    have e0 : Hid (decide (sg false n < 0) = false) := by show _ = _; rw [HE.out]; rfl
    clear hz
    go_enter Try.func72, Try.ntmps72
    go_wp2
    exact bodyPost_ret (v := .agg #[.bool false, .slice a len cap]) (by simp [results, Try.results72, go_sem]) rfl (HF.out _ _ ((Below.refl _ _).alloc (Nat.le_refl _) _) e0.out)
  | true =>
    by_cases hp : 0 < n
    · have hlp : 0 < len := by omega
      have e0 : Hid (decide (sg true n < 0) = true) := by show _ = _; rw [HE.out]; simp [hp]
      clear hz hp
      go_enter Try.func72, Try.ntmps72
      go_wp2
      exact bodyPost_ret (v := .agg #[.bool true, .slice a len cap]) (by simp [results, Try.results72, go_sem]) rfl (HF.out _ _ ((Below.refl _ _).alloc (Nat.le_refl _) _) e0.out)
    · have hlp : len = 0 := by omega
      have e0 : Hid (decide (sg true n < 0) = false) := by show _ = _; rw [HE.out]; simp [hp]
      subst hlp
      clear hz hp
      go_enter Try.func72, Try.ntmps72
      go_wp2
      exact bodyPost_ret (v := .agg #[.bool false, .slice a 0 cap]) (by simp [results, Try.results72, go_sem]) rfl (HF.out _ _ ((Below.refl _ _).alloc (Nat.le_refl _) _) e0.out)
theorem Nums.put2 {w : World} {a : Option Addr} {len cap g : Nat} {l : List Nat} {t : TypeId} {b0 : Bool} {a0 : Option Addr} {l0 c0 : Nat} {x y : Value} (h : Nums w a len cap l) (hB : Mem.Blk w g t #[.bool b0, .slice a0 l0 c0]) : Nums ((w.setCell ⟨g, 0, none⟩ x).setCell ⟨g, 1, none⟩ y) a len cap l := by
  obtain ⟨h1, h2, h2', h3⟩ := h
  refine ⟨h1, h2, h2', fun hp => ?_⟩
  obtain ⟨b, o, ha, hlt, hc⟩ := h3 hp
  have hne : b ≠ g := by
    rintro rfl
    have e := hc 0 (l.getD 0 0) (by rw [List.getD_eq_getElem?_getD, List.getElem?_eq_getElem (by omega)]; rfl)
    rw [hB.cell] at e
    match o, e with
    | 0, e => cases e
    | 1, e => cases e
    | k + 2, e => simp at e
  refine ⟨b, o, ha, by simpa [World.setCell] using hlt, fun i v hv => ?_⟩
  have e1 : ((w.setCell ⟨g, 0, none⟩ x).setCell ⟨g, 1, none⟩ y).heap[b]? = w.heap[b]? := by
    rw [Below.heap_setCell _ _ _ _ hne, Below.heap_setCell _ _ _ _ hne]
  rw [World.cell?_of_block (w := w) e1]
  exact hc i v hv
theorem BigR.put2 {w : World} {r : Value} {z : Int} {g : Nat} {t : TypeId} {b0 : Bool} {a0 : Option Addr} {l0 c0 : Nat} {x y : Value} (h : BigR w r z) (hB : Mem.Blk w g t #[.bool b0, .slice a0 l0 c0]) : BigR ((w.setCell ⟨g, 0, none⟩ x).setCell ⟨g, 1, none⟩ y) r z := by
  obtain ⟨m, rfl, a, len, cap, l, rfl, h1, h2, h3⟩ := h
  exact ⟨_, rfl, a, len, cap, l, rfl, h1.put2 hB, h2, h3⟩
theorem bigr_not (z : Int) : sg (!decide (z < 0)) z.natAbs = -z := by
  unfold sg
  by_cases h : z < 0
  · simp [h]; omega
  · simp [h]; omega
theorem minus_any (v : Value) (z : Int) (w : World) (hv : BigR w v z) :
    Calls Try.prog 42 #[v] w fun e w' => (∃ r, e = .returned r ∧ BigR w' r (-z)) ∧ Below w.heap.size w w' := by
  obtain ⟨m, rfl, hm⟩ := hv
  have HN := Lib.hid (bigr_not z)
  have HM := Lib.hid hm
  obtain ⟨a, len, cap, l, rfl, h1, h2, h3⟩ := hm
  clear h1 h2 h3
  go_enter Try.func42, Try.ntmps42
  go_wp2_with fail
  refine (sign_any _ _ z.natAbs _ (HM.out.below (((Below.refl _ _).alloc (Nat.le_refl _) _).alloc (by simp) _))).mono ?_
  rintro e w1 ⟨⟨r, rfl, hr⟩, b1⟩
  rw [HN.out] at hr
  have bw1 : Below w.heap.size w w1 := (((Below.refl _ _).alloc (Nat.le_refl _) _).alloc (by simp) _).trans (b1.mono (by simp; omega))
  have B1 := (Mem.Blk.new (w.alloc (.cells #[.bool (decide (z < 0)), .slice a len cap] 86)) 86 #[.bool false, .slice none 0 0]).below b1
  have hr2 := hr
  obtain ⟨m2, rfl, a2, len2, cap2, l2, rfl, h1, h2, h3⟩ := hr
  have HR := Lib.hid (fun x y => hr2.put2 (x := x) (y := y) B1)
  clear hr2
  obtain ⟨c0, c1, f0, f1⟩ := B1.two
  have e1 : (w.alloc (.cells #[.bool (decide (z < 0)), .slice a len cap] 86)).heap.size = w.heap.size + 1 := by simp
  rw [e1] at c0 c1 f0 f1 HR
  clear h1 h2 h3 b1 B1
  go_wp2
  refine bodyPost_ret (v := .agg #[.bool (decide (-z < 0)), .slice a2 len2 cap2]) (by simp [results, Try.results42, go_sem, c0, c1]) rfl ⟨⟨_, rfl, HR.out _ _⟩, ?_⟩
  exact (bw1.setCell (by simp) _).setCell (by simp) _
end Go.Proofs.Ytgbiimoednmlgaa

namespace Go.Proofs.Ytgbiimoednmlgaa
set_option linter.unusedVariables false
set_option linter.unusedSimpArgs false
open Go.RowKit
theorem three_cells {w w' : World} {x1 y1 x2 y2 x3 y3 : Value} (hb : Below (w.heap.size + 3) (((w.alloc (.cells #[x1, y1] 86)).alloc (.cells #[x2, y2] 86)).alloc (.cells #[x3, y3] 86)) w') :
    w'.cell? ⟨w.heap.size, 0, none⟩ = some x1 ∧ w'.cell? ⟨w.heap.size, 1, none⟩ = some y1 ∧ w'.cell? ⟨w.heap.size + 1, 0, none⟩ = some x2 ∧ w'.cell? ⟨w.heap.size + 1, 1, none⟩ = some y2 ∧ w'.cell? ⟨w.heap.size + 2, 0, none⟩ = some x3 ∧ w'.cell? ⟨w.heap.size + 2, 1, none⟩ = some y3 ∧ w'.frozen? ⟨w.heap.size + 2, 0, none⟩ = false ∧ w'.frozen? ⟨w.heap.size + 2, 1, none⟩ = false := by
  have e1 : (w.alloc (.cells #[x1, y1] 86)).heap.size = w.heap.size + 1 := by simp
  have e2 : ((w.alloc (.cells #[x1, y1] 86)).alloc (.cells #[x2, y2] 86)).heap.size = w.heap.size + 2 := by simp
  have B1 : Mem.Blk w' w.heap.size 86 #[x1, y1] := (((Mem.Blk.new w 86 #[x1, y1]).alloc _).alloc _).call hb (by omega)
  have B2 : Mem.Blk w' (w.heap.size + 1) 86 #[x2, y2] := by
    have := (Mem.Blk.new (w.alloc (.cells #[x1, y1] 86)) 86 #[x2, y2]).alloc (.cells #[x3, y3] 86)
    rw [e1] at this; exact this.call hb (by omega)
  have B3 : Mem.Blk w' (w.heap.size + 2) 86 #[x3, y3] := by
    have := Mem.Blk.new ((w.alloc (.cells #[x1, y1] 86)).alloc (.cells #[x2, y2] 86)) 86 #[x3, y3]
    rw [e2] at this; exact this.call hb (by omega)
  obtain ⟨a1, a2, _, _⟩ := B1.two
  obtain ⟨a3, a4, _, _⟩ := B2.two
  obtain ⟨a5, a6, a7, a8⟩ := B3.two
  exact ⟨a1, a2, a3, a4, a5, a6, a7, a8⟩
theorem three_blk {w w' : World} {x1 y1 x2 y2 x3 y3 : Value} (hb : Below (w.heap.size + 3) (((w.alloc (.cells #[x1, y1] 86)).alloc (.cells #[x2, y2] 86)).alloc (.cells #[x3, y3] 86)) w') : Mem.Blk w' (w.heap.size + 2) 86 #[x3, y3] := by
  have e2 : ((w.alloc (.cells #[x1, y1] 86)).alloc (.cells #[x2, y2] 86)).heap.size = w.heap.size + 2 := by simp
  have := Mem.Blk.new ((w.alloc (.cells #[x1, y1] 86)).alloc (.cells #[x2, y2] 86)) 86 #[x3, y3]
  rw [e2] at this; exact this.call hb (by omega)
theorem three_bel (w : World) (x1 y1 x2 y2 x3 y3 : Value) : Below w.heap.size w (((w.alloc (.cells #[x1, y1] 86)).alloc (.cells #[x2, y2] 86)).alloc (.cells #[x3, y3] 86)) :=
  (((Below.refl _ _).alloc (Nat.le_refl _) _).alloc (by simp) _).alloc (by simp; omega) _
theorem three_size (w : World) (x1 y1 x2 y2 x3 y3 : Value) : (((w.alloc (.cells #[x1, y1] 86)).alloc (.cells #[x2, y2] 86)).alloc (.cells #[x3, y3] 86)).heap.size = w.heap.size + 3 := by simp
/-- No more digits than a million. -/
@[irreducible] def Sm (n : Nat) : Prop := n < Big.pw 1000000
theorem Sm.lt {n : Nat} (h : Sm n) : n < Big.pw 1000000 := by unfold Sm at h; exact h
theorem Sm.of {n : Nat} (h : n < Big.pw 1000000) : Sm n := by unfold Sm; exact h
theorem far_cell {w : World} {h g i j : Nat} {u x : Value} (hc : w.cell? ⟨h, i, none⟩ = some x) (hne : h ≠ g) : (w.setCell ⟨g, j, none⟩ u).cell? ⟨h, i, none⟩ = some x := by
  rw [World.cell?_of_block (w := w) (Below.heap_setCell w ⟨g, j, none⟩ u h hne)]; exact hc
theorem keep4 {w : World} {h : Nat} {a b c d u v : Value} (h1 : w.cell? ⟨h, 0, none⟩ = some a) (h2 : w.cell? ⟨h, 1, none⟩ = some b) (h3 : w.cell? ⟨h + 1, 0, none⟩ = some c) (h4 : w.cell? ⟨h + 1, 1, none⟩ = some d) :
    ((w.setCell ⟨h + 1 + 1, 0, none⟩ u).setCell ⟨h + 1 + 1, 1, none⟩ v).cell? ⟨h, 0, none⟩ = some a ∧ ((w.setCell ⟨h + 1 + 1, 0, none⟩ u).setCell ⟨h + 1 + 1, 1, none⟩ v).cell? ⟨h, 1, none⟩ = some b ∧ ((w.setCell ⟨h + 1 + 1, 0, none⟩ u).setCell ⟨h + 1 + 1, 1, none⟩ v).cell? ⟨h + 1, 0, none⟩ = some c ∧ ((w.setCell ⟨h + 1 + 1, 0, none⟩ u).setCell ⟨h + 1 + 1, 1, none⟩ v).cell? ⟨h + 1, 1, none⟩ = some d :=
  ⟨far_cell (far_cell h1 (by omega)) (by omega), far_cell (far_cell h2 (by omega)) (by omega), far_cell (far_cell h3 (by omega)) (by omega), far_cell (far_cell h4 (by omega)) (by omega)⟩
set_option maxRecDepth 100000 in
set_option maxHeartbeats 4000000 in
theorem plus_same (s : Bool) (m m' : Value) (n n' : Nat) (w : World) (hm : MagR w m n) (hm' : MagR w m' n') (bn : Sm n) (bn' : Sm n') :
    Calls Try.prog 41 #[.agg #[.bool s, m], .agg #[.bool s, m']] w fun e w' => (∃ r, e = .returned r ∧ BigR w' r (sg s (n + n'))) ∧ Below w.heap.size w w' := by
  have HM := Lib.hid hm
  have HM' := Lib.hid hm'
  have BN := Lib.hid bn
  have BN' := Lib.hid bn'
  obtain ⟨a, len, cap, l, rfl, h1, h2, h3⟩ := hm
  obtain ⟨a', len', cap', l', rfl, h1', h2', h3'⟩ := hm'
  clear h1 h2 h3 h1' h2' h3' bn bn'
  obtain ⟨c1, c2, c3, c4, c5, c6, c7, c8⟩ := three_cells (w := w) (x1 := .bool s) (y1 := .slice a len cap) (x2 := .bool s) (y2 := .slice a' len' cap') (x3 := .bool false) (y3 := .slice none 0 0) (Below.refl _ _)
  have T := Lib.hid (three_bel w (.bool s) (.slice a len cap) (.bool s) (.slice a' len' cap') (.bool false) (.slice none 0 0))
  have TB := Lib.hid (fun w' hb => three_blk (w := w) (w' := w') (x1 := .bool s) (y1 := .slice a len cap) (x2 := .bool s) (y2 := .slice a' len' cap') (x3 := .bool false) (y3 := .slice none 0 0) hb)
  have TC := Lib.hid (fun w' hb => three_cells (w := w) (w' := w') (x1 := .bool s) (y1 := .slice a len cap) (x2 := .bool s) (y2 := .slice a' len' cap') (x3 := .bool false) (y3 := .slice none 0 0) hb)
  have TS := Lib.hid (three_size w (.bool s) (.slice a len cap) (.bool s) (.slice a' len' cap') (.bool false) (.slice none 0 0))
  go_enter Try.func41, Try.ntmps41
  go_wp2_with fail
  generalize ((w.alloc (.cells #[.bool s, .slice a len cap] 86)).alloc (.cells #[.bool s, .slice a' len' cap'] 86)).alloc (.cells #[.bool false, .slice none 0 0] 86) = v at *
  have K0 := Lib.hid (Below.refl (w.heap.size + 3) v)
  go_region_held3 (fun w' => w'.cell? ⟨w.heap.size, 0, none⟩ = some (.bool s) ∧ w'.cell? ⟨w.heap.size, 1, none⟩ = some (.slice a len cap) ∧ w'.cell? ⟨w.heap.size + 1, 0, none⟩ = some (.bool s) ∧ w'.cell? ⟨w.heap.size + 1, 1, none⟩ = some (.slice a' len' cap')) (first | exact keep4 g1 g2 g3 g4 | go_keep)
    (first
      | (go_at_call 73
         refine (add_any _ _ n n' _ (HM.out.below T.out.drew) (HM'.out.below T.out.drew) BN.out.lt BN'.out.lt).mono ?_
         rintro e w1 ⟨⟨r, rfl, hr⟩, b1⟩
         have k1 : Below (w.heap.size + 3) v w1 := (K0.out.drew).trans (b1.mono (Nat.le_trans (Nat.le_of_eq TS.out.symm) K0.out.size))
         obtain ⟨d1, d2, d3, d4, d5, d6, d7, d8⟩ := TC.out w1 k1)
      | (go_at_call 72
         refine (sign_any _ _ _ _ hr).mono ?_
         rintro e w2 ⟨⟨r2, rfl, hr2⟩, b2⟩
         have k2 : Below (w.heap.size + 3) v w2 := k1.trans (b2.mono (Nat.le_trans (Nat.le_of_eq TS.out.symm) k1.size))
         obtain ⟨g1, g2, g3, g4, g5, g6, g7, g8⟩ := TC.out w2 k2
         have hr3 := hr2
         obtain ⟨m2, rfl, a2, len2, cap2, l2, rfl, q1, q2, q3⟩ := hr2))
  have HR := Lib.hid (fun x y => hr3.put2 (x := x) (y := y) (TB.out w2 k2))
  have BW := Lib.hid (T.out.trans (k2.mono (by omega)))
  clear TC TB hr hr3 q1 q2 q3 d1 d2 d3 d4 d5 d6 d7 d8 c1 c2 c3 c4 c5 c6 c7 c8 b1 b2 k1 k2
  go_wp2
  refine bodyPost_ret (v := .agg #[.bool (decide (sg s (n + n') < 0)), .slice a2 len2 cap2]) (by simp [results, Try.results41, go_sem, g5, g6]) rfl ⟨⟨_, rfl, HR.out _ _⟩, ?_⟩
  exact (BW.out.setCell (by simp; omega) _).setCell (by simp; omega) _
set_option maxRecDepth 100000 in
set_option maxHeartbeats 4000000 in
theorem plus_ge (s : Bool) (m m' : Value) (n n' : Nat) (w : World) (hm : MagR w m n) (hm' : MagR w m' n') (bn : Sm n) (bn' : Sm n') (hle : n' ≤ n) :
    Calls Try.prog 41 #[.agg #[.bool s, m], .agg #[.bool (!s), m']] w fun e w' => (∃ r, e = .returned r ∧ BigR w' r (sg s (n - n'))) ∧ Below w.heap.size w w' := by
  have HM := Lib.hid hm
  have HM' := Lib.hid hm'
  have BN := Lib.hid bn
  have BN' := Lib.hid bn'
  obtain ⟨a, len, cap, l, rfl, h1, h2, h3⟩ := hm
  obtain ⟨a', len', cap', l', rfl, h1', h2', h3'⟩ := hm'
  clear h1 h2 h3 h1' h2' h3' bn bn'
  obtain ⟨c1, c2, c3, c4, c5, c6, c7, c8⟩ := three_cells (w := w) (x1 := .bool s) (y1 := .slice a len cap) (x2 := .bool (!s)) (y2 := .slice a' len' cap') (x3 := .bool false) (y3 := .slice none 0 0) (Below.refl _ _)
  have T := Lib.hid (three_bel w (.bool s) (.slice a len cap) (.bool (!s)) (.slice a' len' cap') (.bool false) (.slice none 0 0))
  have TB := Lib.hid (fun w' hb => three_blk (w := w) (w' := w') (x1 := .bool s) (y1 := .slice a len cap) (x2 := .bool (!s)) (y2 := .slice a' len' cap') (x3 := .bool false) (y3 := .slice none 0 0) hb)
  have TC := Lib.hid (fun w' hb => three_cells (w := w) (w' := w') (x1 := .bool s) (y1 := .slice a len cap) (x2 := .bool (!s)) (y2 := .slice a' len' cap') (x3 := .bool false) (y3 := .slice none 0 0) hb)
  have TS := Lib.hid (three_size w (.bool s) (.slice a len cap) (.bool (!s)) (.slice a' len' cap') (.bool false) (.slice none 0 0))
  have HLE := Lib.hid hle
  obtain ⟨cv, hcv, hcv0⟩ : ∃ cv, cmpN n n' = cv ∧ 0 ≤ cv := ⟨_, rfl, by unfold cmpN; rw [if_neg (by omega)]; split <;> decide⟩
  have HCV := Lib.hid hcv
  clear hcv hle
  have hs : (s == !s) = false := by cases s <;> rfl
  go_enter Try.func41, Try.ntmps41
  go_wp2_with fail
  have hv0 : Hid (Below w.heap.size w (((w.alloc (.cells #[.bool s, .slice a len cap] 86)).alloc (.cells #[.bool (!s), .slice a' len' cap'] 86)).alloc (.cells #[.bool false, .slice none 0 0] 86))) := T
  generalize ((w.alloc (.cells #[.bool s, .slice a len cap] 86)).alloc (.cells #[.bool (!s), .slice a' len' cap'] 86)).alloc (.cells #[.bool false, .slice none 0 0] 86) = v at *
  refine (cmpm_any _ _ n n' _ (HM.out.below T.out) (HM'.out.below T.out)).mono ?_
  rintro e w0 ⟨rfl, b0⟩
  rw [HCV.out]
  have K0 : Hid (Below (w.heap.size + 3) v w0) := b0.mono (Nat.le_of_eq TS.out.symm)
  obtain ⟨p1, p2, p3, p4, p5, p6, p7, p8⟩ := TC.out w0 K0.out
  go_wp2_with fail
  go_region_held3 (fun w' => w'.cell? ⟨w.heap.size, 0, none⟩ = some (.bool s) ∧ w'.cell? ⟨w.heap.size, 1, none⟩ = some (.slice a len cap) ∧ w'.cell? ⟨w.heap.size + 1, 0, none⟩ = some (.bool (!s)) ∧ w'.cell? ⟨w.heap.size + 1, 1, none⟩ = some (.slice a' len' cap')) (first | exact keep4 g1 g2 g3 g4 | go_keep)
    (first
      | (go_at_call 75
         refine (sub_any _ _ n n' _ (HM.out.below (T.out.trans (K0.out.mono (by omega))).drew) (HM'.out.below (T.out.trans (K0.out.mono (by omega))).drew) BN.out.lt HLE.out).mono ?_
         rintro e w1 ⟨⟨r, rfl, hr⟩, b1⟩
         have k1 : Below (w.heap.size + 3) v w1 := (K0.out.drew).trans (b1.mono (Nat.le_trans (Nat.le_of_eq TS.out.symm) K0.out.size))
         obtain ⟨d1, d2, d3, d4, d5, d6, d7, d8⟩ := TC.out w1 k1)
      | (go_at_call 72
         refine (sign_any _ _ _ _ hr).mono ?_
         rintro e w2 ⟨⟨r2, rfl, hr2⟩, b2⟩
         have k2 : Below (w.heap.size + 3) v w2 := k1.trans (b2.mono (Nat.le_trans (Nat.le_of_eq TS.out.symm) k1.size))
         obtain ⟨g1, g2, g3, g4, g5, g6, g7, g8⟩ := TC.out w2 k2
         have hr3 := hr2
         obtain ⟨m2, rfl, a2, len2, cap2, l2, rfl, q1, q2, q3⟩ := hr2))
  have HR := Lib.hid (fun x y => hr3.put2 (x := x) (y := y) (TB.out w2 k2))
  have BW := Lib.hid (T.out.trans (k2.mono (by omega)))
  clear TC TB hr hr3 q1 q2 q3 d1 d2 d3 d4 d5 d6 d7 d8 c1 c2 c3 c4 c5 c6 c7 c8 b1 b2 k1 k2
  go_wp2
  refine bodyPost_ret (v := .agg #[.bool (decide (sg s (n - n') < 0)), .slice a2 len2 cap2]) (by simp [results, Try.results41, go_sem, g5, g6]) rfl ⟨⟨_, rfl, HR.out _ _⟩, ?_⟩
  exact (BW.out.setCell (by simp; omega) _).setCell (by simp; omega) _
set_option maxRecDepth 100000 in
set_option maxHeartbeats 4000000 in
theorem plus_lt (s : Bool) (m m' : Value) (n n' : Nat) (w : World) (hm : MagR w m n) (hm' : MagR w m' n') (bn : Sm n) (bn' : Sm n') (hle : n < n') :
    Calls Try.prog 41 #[.agg #[.bool s, m], .agg #[.bool (!s), m']] w fun e w' => (∃ r, e = .returned r ∧ BigR w' r (sg (!s) (n' - n))) ∧ Below w.heap.size w w' := by
  have HM := Lib.hid hm
  have HM' := Lib.hid hm'
  have BN := Lib.hid bn
  have BN' := Lib.hid bn'
  obtain ⟨a, len, cap, l, rfl, h1, h2, h3⟩ := hm
  obtain ⟨a', len', cap', l', rfl, h1', h2', h3'⟩ := hm'
  clear h1 h2 h3 h1' h2' h3' bn bn'
  obtain ⟨c1, c2, c3, c4, c5, c6, c7, c8⟩ := three_cells (w := w) (x1 := .bool s) (y1 := .slice a len cap) (x2 := .bool (!s)) (y2 := .slice a' len' cap') (x3 := .bool false) (y3 := .slice none 0 0) (Below.refl _ _)
  have T := Lib.hid (three_bel w (.bool s) (.slice a len cap) (.bool (!s)) (.slice a' len' cap') (.bool false) (.slice none 0 0))
  have TB := Lib.hid (fun w' hb => three_blk (w := w) (w' := w') (x1 := .bool s) (y1 := .slice a len cap) (x2 := .bool (!s)) (y2 := .slice a' len' cap') (x3 := .bool false) (y3 := .slice none 0 0) hb)
  have TC := Lib.hid (fun w' hb => three_cells (w := w) (w' := w') (x1 := .bool s) (y1 := .slice a len cap) (x2 := .bool (!s)) (y2 := .slice a' len' cap') (x3 := .bool false) (y3 := .slice none 0 0) hb)
  have TS := Lib.hid (three_size w (.bool s) (.slice a len cap) (.bool (!s)) (.slice a' len' cap') (.bool false) (.slice none 0 0))
  have HLE := Lib.hid hle
  obtain ⟨cv, hcv, hcv0⟩ : ∃ cv, cmpN n n' = cv ∧ cv < 0 := ⟨_, rfl, by unfold cmpN; rw [if_pos hle]; decide⟩
  have HCV := Lib.hid hcv
  clear hcv hle
  have hs : (s == !s) = false := by cases s <;> rfl
  go_enter Try.func41, Try.ntmps41
  go_wp2_with fail
  have hv0 : Hid (Below w.heap.size w (((w.alloc (.cells #[.bool s, .slice a len cap] 86)).alloc (.cells #[.bool (!s), .slice a' len' cap'] 86)).alloc (.cells #[.bool false, .slice none 0 0] 86))) := T
  generalize ((w.alloc (.cells #[.bool s, .slice a len cap] 86)).alloc (.cells #[.bool (!s), .slice a' len' cap'] 86)).alloc (.cells #[.bool false, .slice none 0 0] 86) = v at *
  refine (cmpm_any _ _ n n' _ (HM.out.below T.out) (HM'.out.below T.out)).mono ?_
  rintro e w0 ⟨rfl, b0⟩
  rw [HCV.out]
  have K0 : Hid (Below (w.heap.size + 3) v w0) := b0.mono (Nat.le_of_eq TS.out.symm)
  obtain ⟨p1, p2, p3, p4, p5, p6, p7, p8⟩ := TC.out w0 K0.out
  go_wp2_with fail
  go_region_held3 (fun w' => w'.cell? ⟨w.heap.size, 0, none⟩ = some (.bool s) ∧ w'.cell? ⟨w.heap.size, 1, none⟩ = some (.slice a len cap) ∧ w'.cell? ⟨w.heap.size + 1, 0, none⟩ = some (.bool (!s)) ∧ w'.cell? ⟨w.heap.size + 1, 1, none⟩ = some (.slice a' len' cap')) (first | exact keep4 g1 g2 g3 g4 | go_keep)
    (first
      | (go_at_call 75
         refine (sub_any _ _ n' n _ (HM'.out.below (T.out.trans (K0.out.mono (by omega))).drew) (HM.out.below (T.out.trans (K0.out.mono (by omega))).drew) BN'.out.lt (Nat.le_of_lt HLE.out)).mono ?_
         rintro e w1 ⟨⟨r, rfl, hr⟩, b1⟩
         have k1 : Below (w.heap.size + 3) v w1 := (K0.out.drew).trans (b1.mono (Nat.le_trans (Nat.le_of_eq TS.out.symm) K0.out.size))
         obtain ⟨d1, d2, d3, d4, d5, d6, d7, d8⟩ := TC.out w1 k1)
      | (go_at_call 72
         refine (sign_any _ _ _ _ hr).mono ?_
         rintro e w2 ⟨⟨r2, rfl, hr2⟩, b2⟩
         have k2 : Below (w.heap.size + 3) v w2 := k1.trans (b2.mono (Nat.le_trans (Nat.le_of_eq TS.out.symm) k1.size))
         obtain ⟨g1, g2, g3, g4, g5, g6, g7, g8⟩ := TC.out w2 k2
         have hr3 := hr2
         obtain ⟨m2, rfl, a2, len2, cap2, l2, rfl, q1, q2, q3⟩ := hr2))
  have HR := Lib.hid (fun x y => hr3.put2 (x := x) (y := y) (TB.out w2 k2))
  have BW := Lib.hid (T.out.trans (k2.mono (by omega)))
  clear TC TB hr hr3 q1 q2 q3 d1 d2 d3 d4 d5 d6 d7 d8 c1 c2 c3 c4 c5 c6 c7 c8 b1 b2 k1 k2
  go_wp2
  refine bodyPost_ret (v := .agg #[.bool (decide (sg (!s) (n' - n) < 0)), .slice a2 len2 cap2]) (by simp [results, Try.results41, go_sem, g5, g6]) rfl ⟨⟨_, rfl, HR.out _ _⟩, ?_⟩
  exact (BW.out.setCell (by simp; omega) _).setCell (by simp; omega) _
theorem big_add_same (z z' : Int) (h : decide (z < 0) = decide (z' < 0)) : sg (decide (z < 0)) (z.natAbs + z'.natAbs) = z + z' := by
  unfold sg
  by_cases h1 : z < 0 <;> by_cases h2 : z' < 0 <;> simp [h1, h2] at h ⊢ <;> omega
theorem big_add_ge (z z' : Int) (h : decide (z' < 0) = !decide (z < 0)) (hle : z'.natAbs ≤ z.natAbs) : sg (decide (z < 0)) (z.natAbs - z'.natAbs) = z + z' := by
  unfold sg
  by_cases h1 : z < 0 <;> by_cases h2 : z' < 0 <;> simp [h1, h2] at h ⊢ <;> omega
theorem big_add_lt (z z' : Int) (h : decide (z' < 0) = !decide (z < 0)) (hle : z.natAbs < z'.natAbs) : sg (!decide (z < 0)) (z'.natAbs - z.natAbs) = z + z' := by
  unfold sg
  by_cases h1 : z < 0 <;> by_cases h2 : z' < 0 <;> simp [h1, h2] at h ⊢ <;> omega
theorem plus_any (u v : Value) (z z' : Int) (w : World) (hu : BigR w u z) (hv : BigR w v z') (bn : Sm z.natAbs) (bn' : Sm z'.natAbs) :
    Calls Try.prog 41 #[u, v] w fun e w' => (∃ r, e = .returned r ∧ BigR w' r (z + z')) ∧ Below w.heap.size w w' := by
  obtain ⟨m, rfl, hm⟩ := hu
  obtain ⟨m', rfl, hm'⟩ := hv
  have BN := Lib.hid bn
  have BN' := Lib.hid bn'
  clear bn bn'
  by_cases h : decide (z < 0) = decide (z' < 0)
  · have := plus_same (decide (z < 0)) m m' _ _ w hm hm' BN.out BN'.out
    rw [big_add_same z z' h] at this
    rw [← h]; exact this
  · have h2 : decide (z' < 0) = !decide (z < 0) := by
      revert h
      cases decide (z < 0) <;> cases decide (z' < 0) <;> simp
    by_cases hle : z'.natAbs ≤ z.natAbs
    · have := plus_ge (decide (z < 0)) m m' _ _ w hm hm' BN.out BN'.out hle
      rw [big_add_ge z z' h2 hle] at this
      rw [h2]; exact this
    · have := plus_lt (decide (z < 0)) m m' _ _ w hm hm' BN.out BN'.out (by omega)
      rw [big_add_lt z z' h2 (by omega)] at this
      rw [h2]; exact this
end Go.Proofs.Ytgbiimoednmlgaa

namespace Go.Proofs.Ytgbiimoednmlgaa
set_option linter.unusedVariables false
set_option linter.unusedSimpArgs false
open Go.RowKit
theorem two_cells64 {w w' : World} {x1 y1 x2 y2 : Value} (hb : Below (w.heap.size + 2) ((w.alloc (.cells #[x1, y1] 86)).alloc (.cells #[x2, y2] 86)) w') :
    w'.cell? ⟨w.heap.size, 0, none⟩ = some x1 ∧ w'.cell? ⟨w.heap.size, 1, none⟩ = some y1 ∧ w'.cell? ⟨w.heap.size + 1, 0, none⟩ = some x2 ∧ w'.cell? ⟨w.heap.size + 1, 1, none⟩ = some y2 := by
  have e1 : (w.alloc (.cells #[x1, y1] 86)).heap.size = w.heap.size + 1 := by simp
  have B1 : Mem.Blk w' w.heap.size 86 #[x1, y1] := (((Mem.Blk.new w 86 #[x1, y1]).alloc _)).call hb (by omega)
  have B2 : Mem.Blk w' (w.heap.size + 1) 86 #[x2, y2] := by
    have := (Mem.Blk.new (w.alloc (.cells #[x1, y1] 86)) 86 #[x2, y2])
    rw [e1] at this; exact this.call hb (by omega)
  exact ⟨B1.two.1, B1.two.2.1, B2.two.1, B2.two.2.1⟩
theorem keep4g {w : World} {h g : Nat} {a b c d u v : Value} (hg : h + 2 ≤ g) (h1 : w.cell? ⟨h, 0, none⟩ = some a) (h2 : w.cell? ⟨h, 1, none⟩ = some b) (h3 : w.cell? ⟨h + 1, 0, none⟩ = some c) (h4 : w.cell? ⟨h + 1, 1, none⟩ = some d) :
    ((w.setCell ⟨g, 0, none⟩ u).setCell ⟨g, 1, none⟩ v).cell? ⟨h, 0, none⟩ = some a ∧ ((w.setCell ⟨g, 0, none⟩ u).setCell ⟨g, 1, none⟩ v).cell? ⟨h, 1, none⟩ = some b ∧ ((w.setCell ⟨g, 0, none⟩ u).setCell ⟨g, 1, none⟩ v).cell? ⟨h + 1, 0, none⟩ = some c ∧ ((w.setCell ⟨g, 0, none⟩ u).setCell ⟨g, 1, none⟩ v).cell? ⟨h + 1, 1, none⟩ = some d :=
  ⟨far_cell (far_cell h1 (by omega)) (by omega), far_cell (far_cell h2 (by omega)) (by omega), far_cell (far_cell h3 (by omega)) (by omega), far_cell (far_cell h4 (by omega)) (by omega)⟩
def cmpZ (z z' : Int) : Int := if z < z' then -1 else if z = z' then 0 else 1
set_option maxRecDepth 100000 in
set_option maxHeartbeats 2000000 in
theorem bigcmp_any (u v : Value) (z z' : Int) (w : World) (hu : BigR w u z) (hv : BigR w v z') (bn : Sm z.natAbs) (bn' : Sm (-z').natAbs) :
    Calls Try.prog 58 #[u, v] w fun e w' => e = .returned (.int .i64 (cmpZ z z')) ∧ Below w.heap.size w w' := by
  have HR := Lib.hid (fun (x : Int) (h : cmpZ z z' = x) => (ret_int h.symm : Ending.returned (.int .i64 x) = .returned (.int .i64 (cmpZ z z'))))
  have HU := Lib.hid hu
  have HV := Lib.hid hv
  obtain ⟨m, rfl, a, len, cap, l, rfl, h1, h2, h3⟩ := hu
  obtain ⟨m', rfl, a', len', cap', l', rfl, h1', h2', h3'⟩ := hv
  clear h1 h2 h3 h1' h2' h3'
  generalize decide (z < 0) = s at *
  generalize decide (z' < 0) = s' at *
  have T := Lib.hid ((((Below.refl _ w).alloc (Nat.le_refl _) (.cells #[.bool s, .slice a len cap] 86)).alloc (by simp) (.cells #[.bool s', .slice a' len' cap'] 86)) : Below w.heap.size w _)
  have TC := Lib.hid (fun w' hb => two_cells64 (w := w) (w' := w') (x1 := .bool s) (y1 := .slice a len cap) (x2 := .bool s') (y2 := .slice a' len' cap') hb)
  have TS := Lib.hid (show ((w.alloc (.cells #[.bool s, .slice a len cap] 86)).alloc (.cells #[.bool s', .slice a' len' cap'] 86)).heap.size = w.heap.size + 2 by simp)
  have TL : Hid (w.heap.size ≤ ((w.alloc (.cells #[.bool s, .slice a len cap] 86)).alloc (.cells #[.bool s', .slice a' len' cap'] 86)).heap.size) := by show _ ≤ _; rw [TS.out]; omega
  go_enter Try.func58, Try.ntmps58
  go_wp2_with fail
  obtain ⟨c1, c2, c3, c4⟩ := TC.out _ (Below.refl _ _)
  generalize (w.alloc (.cells #[.bool s, .slice a len cap] 86)).alloc (.cells #[.bool s', .slice a' len' cap'] 86) = v at *
  go_region_held3 (fun w' => w'.cell? ⟨w.heap.size, 0, none⟩ = some (.bool s) ∧ w'.cell? ⟨w.heap.size, 1, none⟩ = some (.slice a len cap) ∧ w'.cell? ⟨w.heap.size + 1, 0, none⟩ = some (.bool s') ∧ w'.cell? ⟨w.heap.size + 1, 1, none⟩ = some (.slice a' len' cap')) (first | exact keep4g (Nat.le_trans (Nat.le_of_eq TS.out.symm) k1.size) g1 g2 g3 g4 | exact keep4g (Nat.le_of_eq TS.out.symm) g1 g2 g3 g4 | go_keep)
    (first
      | (go_at_call 42
         refine (minus_any _ z' _ (HV.out.below (by first | exact T.out.drew | exact (T.out.alloc TL.out _).drew))).mono ?_
         rintro e w1 ⟨⟨r, rfl, hr⟩, b1⟩
         have k1 : Below (w.heap.size + 2) v w1 := by
           first
             | exact ((Below.refl _ v).drew).trans (b1.mono (Nat.le_of_eq TS.out.symm))
             | exact (((Below.refl (w.heap.size + 2) v).alloc (Nat.le_of_eq TS.out.symm) (.cells #[.bool false, .slice none 0 0] 86)).drew).trans (b1.mono (Nat.le_trans (Nat.le_of_eq TS.out.symm) ((Below.refl (w.heap.size + 2) v).alloc (Nat.le_of_eq TS.out.symm) (.cells #[.bool false, .slice none 0 0] 86)).size))
         have k0 : Below w.heap.size w w1 := T.out.trans (k1.mono (by omega))
         obtain ⟨d1, d2, d3, d4⟩ := TC.out w1 k1
         have a1 : Below w1.heap.size w1 (w1.alloc (.cells #[.bool false, .slice none 0 0] 86)) := (Below.refl _ _).alloc (Nat.le_refl _) _
         have a2 : Below (w.heap.size + 2) v (w1.alloc (.cells #[.bool false, .slice none 0 0] 86)) := k1.trans (a1.mono (Nat.le_trans (Nat.le_of_eq TS.out.symm) k1.size))
         obtain ⟨n1, n2, n3, n4⟩ := TC.out _ a2
         try (have BA := (Mem.Blk.new v 86 #[.bool false, .slice none 0 0]).drew.below b1))
      | (go_at_call 41
         refine (plus_any _ _ z (-z') _ (HU.out.below (by first | exact k0 | exact T.out.trans (a2.mono (by omega)))) (by first | exact hr | exact hr.below a1) bn bn').mono ?_
         rintro e w2 ⟨⟨r2, rfl, hr2⟩, b2⟩
         have k2 : Below (w.heap.size + 2) v w2 := by
           first
             | exact k1.trans (b2.mono (Nat.le_trans (Nat.le_of_eq TS.out.symm) k1.size))
             | exact a2.trans (b2.mono (Nat.le_trans (Nat.le_of_eq TS.out.symm) a2.size))
         obtain ⟨g1, g2, g3, g4⟩ := TC.out w2 k2
         obtain ⟨m2, rfl, a2, len2, cap2, l2, rfl, q1, q2, q3⟩ := hr2
         try (have B3 := (Mem.Blk.new w1 86 #[.bool false, .slice none 0 0]).below b2; obtain ⟨e0, e1, f0, f1⟩ := B3.two)
         try (have B4 := BA.below b2; obtain ⟨e0, e1, f0, f1⟩ := B4.two)))
  all_goals
    have hz := MagR.zero q1 q2 q3
    have K := Lib.hid (T.out.trans (k2.mono (by omega)))
    have S1 := Lib.hid k0.size
    clear TC HU HV q1 q2 q3 hr k0 k1 k2 b1 b2 d1 d2 d3 d4 g1 g2 g3 g4 a1 n1 n2 n3 n4 c1 c2 c3 c4 bn bn'
    rcases Int.lt_trichotomy z z' with hlt | heq | hlt
    · have FIN := Lib.hid (HR.out (-1) (by unfold cmpZ; rw [if_pos hlt]))
      have e1 : decide (z + -z' < 0) = true := by simp; omega
      have hne : ((len2 : Int) == 0) = false := by simp; omega
      generalize decide (z + -z' < 0) = neg at *
      subst e1
      clear hz hlt
      go_wp2
      go_ret
      exact ⟨FIN.out, by first | exact K.out.alloc K.out.size _ | exact (K.out.setCell S1.out _).setCell S1.out _ | exact (K.out.setCell TL.out _).setCell TL.out _⟩
    · have FIN := Lib.hid (HR.out 0 (by unfold cmpZ; rw [if_neg (by omega), if_pos heq]))
      have hl0 : len2 = 0 := by omega
      subst hl0
      clear hz heq
      go_wp2
      go_ret
      exact ⟨FIN.out, by first | exact K.out.alloc K.out.size _ | exact (K.out.setCell S1.out _).setCell S1.out _ | exact (K.out.setCell TL.out _).setCell TL.out _⟩
    · have FIN := Lib.hid (HR.out 1 (by unfold cmpZ; rw [if_neg (by omega), if_neg (by omega)]))
      have e1 : decide (z + -z' < 0) = false := by simp; omega
      have hne : ((len2 : Int) == 0) = false := by simp; omega
      generalize decide (z + -z' < 0) = neg at *
      subst e1
      clear hz hlt
      go_wp2
      go_ret
      exact ⟨FIN.out, by first | exact K.out.alloc K.out.size _ | exact (K.out.setCell S1.out _).setCell S1.out _ | exact (K.out.setCell TL.out _).setCell TL.out _⟩
end Go.Proofs.Ytgbiimoednmlgaa
