/- Numbers by their digits to the base 65536: plain arithmetic, no program in sight. -/
import Derived.Test.YtokinadmeooaoaaMem
namespace Go.Big
/-- digits to the base 65536, the lowest first -/
def val : List Nat → Nat
  | [] => 0
  | d :: l => d + 65536 * val l
def Dig (l : List Nat) : Prop := ∀ d ∈ l, d < 65536
def Norm (l : List Nat) : Prop := Dig l ∧ (∀ d, l.getLast? = some d → d ≠ 0)
def pw (k : Nat) : Nat := 65536 ^ k
theorem pw_succ (k : Nat) : pw (k + 1) = 65536 * pw k := by unfold pw; rw [Nat.pow_succ, Nat.mul_comm]
theorem pw_zero : pw 0 = 1 := rfl
theorem pw_pos (k : Nat) : 0 < pw k := Nat.pow_pos (by omega)
theorem pw_add (a b : Nat) : pw (a + b) = pw a * pw b := Nat.pow_add _ _ _
theorem pw_mono {a b : Nat} (h : a ≤ b) : pw a ≤ pw b := Nat.pow_le_pow_right (by omega) h
theorem Dig.nil : Dig [] := by intro d h; cases h
theorem Dig.append {a b : List Nat} (ha : Dig a) (hb : Dig b) : Dig (a ++ b) := by
  intro d h; rcases List.mem_append.1 h with h | h
  · exact ha d h
  · exact hb d h
theorem Dig.take {a : List Nat} (ha : Dig a) (k : Nat) : Dig (a.take k) := fun d h => ha d (List.mem_of_mem_take h)
theorem Dig.drop {a : List Nat} (ha : Dig a) (k : Nat) : Dig (a.drop k) := fun d h => ha d (List.mem_of_mem_drop h)
theorem Dig.getD {a : List Nat} (ha : Dig a) (k : Nat) : a.getD k 0 < 65536 := by
  rw [List.getD_eq_getElem?_getD]
  cases h : a[k]? with
  | none => simp
  | some d => exact ha d (List.mem_of_getElem? h)
theorem val_append (a b : List Nat) : val (a ++ b) = val a + pw a.length * val b := by
  induction a with
  | nil => simp [val, pw]
  | cons d l ih => simp only [List.cons_append, val, ih, List.length_cons, pw_succ]; rw [Nat.mul_add, Nat.mul_assoc, Nat.add_assoc]
theorem val_snoc (a : List Nat) (d : Nat) : val (a ++ [d]) = val a + d * pw a.length := by
  rw [val_append]; simp [val, Nat.mul_comm]
theorem val_lt {a : List Nat} (h : Dig a) : val a < pw a.length := by
  induction a with
  | nil => simp [val, pw]
  | cons d l ih =>
    have h1 := h d (by simp)
    have h2 := ih (fun x hx => h x (by simp [hx]))
    simp only [val, List.length_cons, pw_succ]; omega
theorem val_take_succ (a : List Nat) (k : Nat) : val (a.take (k + 1)) = val (a.take k) + a.getD k 0 * pw k := by
  by_cases h : k < a.length
  · rw [List.take_succ_eq_append_getElem h, val_snoc, List.length_take, Nat.min_eq_left (by omega)]
    simp [List.getD_eq_getElem?_getD, h]
  · rw [List.take_of_length_le (by omega), List.take_of_length_le (by omega)]
    simp [List.getD_eq_getElem?_getD, List.getElem?_eq_none (Nat.not_lt.1 h)]
theorem Norm.nil : Norm [] := ⟨Dig.nil, by simp⟩
theorem Norm.ne {a : List Nat} (h : Norm a) (hn : a ≠ []) : pw (a.length - 1) ≤ val a := by
  rcases List.eq_nil_or_concat a with rfl | ⟨l, d, rfl⟩
  · exact absurd rfl hn
  · have := h.2 d (by simp)
    simp only [List.concat_eq_append, val_snoc, List.length_append, List.length_singleton, Nat.add_sub_cancel]
    have : 1 * pw l.length ≤ d * pw l.length := Nat.mul_le_mul_right _ (by omega)
    omega
theorem Norm.nil_iff {a : List Nat} (h : Norm a) : a = [] ↔ val a = 0 := by
  constructor
  · rintro rfl; rfl
  · intro h0
    apply Classical.byContradiction; intro hn
    have := h.ne hn
    have := pw_pos (a.length - 1)
    omega
theorem Norm.length_le {a : List Nat} (h : Norm a) {k : Nat} (hv : val a < pw k) : a.length ≤ k := by
  apply Classical.byContradiction; intro hk
  have hn : a ≠ [] := by rintro rfl; simp at hk
  have h1 := h.ne hn
  have h2 := pw_mono (a := k) (b := a.length - 1) (by omega)
  omega
theorem Norm.length_lt_val {a b : List Nat} (ha : Norm a) (hb : Norm b) (h : a.length < b.length) : val a < val b := by
  have h1 := val_lt ha.1
  have hn : b ≠ [] := by rintro rfl; simp at h
  have h2 := hb.ne hn
  have h3 := pw_mono (a := a.length) (b := b.length - 1) (by omega)
  omega
theorem dig_inj : ∀ {a b : List Nat}, Dig a → Dig b → a.length = b.length → val a = val b → a = b
  | [], [], _, _, _, _ => rfl
  | [], _ :: _, _, _, h, _ => by simp at h
  | _ :: _, [], _, _, h, _ => by simp at h
  | x :: a, y :: b, ha, hb, hl, hv => by
    have h1 := ha x (by simp)
    have h2 := hb y (by simp)
    simp only [val] at hv
    have e : x = y := by omega
    have e2 : val a = val b := by omega
    rw [e, dig_inj (fun d h => ha d (by simp [h])) (fun d h => hb d (by simp [h])) (by simpa using hl) e2]
theorem Norm.inj {a b : List Nat} (ha : Norm a) (hb : Norm b) (h : val a = val b) : a = b := by
  apply dig_inj ha.1 hb.1 ?_ h
  rcases Nat.lt_trichotomy a.length b.length with g | g | g
  · have := ha.length_lt_val hb g; omega
  · exact g
  · have := hb.length_lt_val ha g; omega
/-- trim: without noughts above -/
def trim (l : List Nat) : List Nat := (l.reverse.dropWhile (· == 0)).reverse
theorem trim_nil : trim [] = [] := rfl
theorem trim_snoc0 (l : List Nat) : trim (l ++ [0]) = trim l := by simp [trim]
theorem trim_snoc (l : List Nat) (d : Nat) (h : d ≠ 0) : trim (l ++ [d]) = l ++ [d] := by
  have : (d == 0) = false := by simp [h]
  simp [trim, this]
theorem trim_take_succ (l : List Nat) (k : Nat) (hk : k < l.length) (h0 : l.getD k 0 = 0) : trim (l.take (k + 1)) = trim (l.take k) := by
  rw [List.take_succ_eq_append_getElem hk]
  have : l[k] = 0 := by simpa [List.getD_eq_getElem?_getD, hk] using h0
  rw [this, trim_snoc0]
theorem trim_take_stop (l : List Nat) (k : Nat) (hk : k < l.length) (h0 : l.getD k 0 ≠ 0) : trim (l.take (k + 1)) = l.take (k + 1) := by
  rw [List.take_succ_eq_append_getElem hk]
  have : l[k] ≠ 0 := by simpa [List.getD_eq_getElem?_getD, hk] using h0
  rw [trim_snoc _ _ this]
theorem trim_spec (l : List Nat) (h : Dig l) : Norm (trim l) ∧ val (trim l) = val l ∧ (trim l).length ≤ l.length := by
  rcases List.eq_nil_or_concat l with rfl | ⟨a, d, rfl⟩
  · exact ⟨Norm.nil, rfl, by simp [trim]⟩
  · simp only [List.concat_eq_append] at h ⊢
    by_cases hd : d = 0
    · subst hd
      rw [trim_snoc0]
      have := trim_spec a (fun x hx => h x (by simp [hx]))
      refine ⟨this.1, by rw [this.2.1, val_snoc]; simp, ?_⟩
      have h3 := this.2.2
      simp only [List.length_append, List.length_singleton]; omega
    · rw [trim_snoc _ _ hd]
      exact ⟨⟨h, fun x hx => by simp at hx; omega⟩, rfl, Nat.le_refl _⟩
termination_by l.length
/-- one step of a sum of digits -/
theorem add_step (out a b : List Nat) (i carry : Nat) (hl : out.length = i) (hinv : val out + carry * pw i = val (a.take i) + val (b.take i)) :
    val (out ++ [(carry + a.getD i 0 + b.getD i 0) % 65536]) + (carry + a.getD i 0 + b.getD i 0) / 65536 * pw (i + 1) = val (a.take (i + 1)) + val (b.take (i + 1)) := by
  rw [val_snoc, hl, val_take_succ, val_take_succ, pw_succ]
  generalize a.getD i 0 = x at *
  generalize b.getD i 0 = y at *
  generalize pw i = P at *
  have h1 : (carry + x + y) % 65536 * P + (carry + x + y) / 65536 * (65536 * P) = (carry + x + y) * P := by
    rw [← Nat.mul_assoc, ← Nat.add_mul]; congr 1; omega
  have h2 : (carry + x + y) * P = carry * P + x * P + y * P := by rw [Nat.add_mul, Nat.add_mul]
  omega
/-- one step of a difference of digits -/
theorem sub_step (out a b : List Nat) (i borrow : Nat) (hb : borrow ≤ 1) (ha : Dig a) (hbd : Dig b) (hl : out.length = i) (hinv : val out + val (b.take i) = val (a.take i) + borrow * pw i) :
    val (out ++ [(65536 + a.getD i 0 - borrow - b.getD i 0) % 65536]) + val (b.take (i + 1)) = val (a.take (i + 1)) + (1 - (65536 + a.getD i 0 - borrow - b.getD i 0) / 65536) * pw (i + 1) := by
  have hx := ha.getD i
  have hy := hbd.getD i
  rw [val_snoc, hl, val_take_succ, val_take_succ, pw_succ]
  generalize a.getD i 0 = x at *
  generalize b.getD i 0 = y at *
  generalize pw i = P at *
  have hv : (65536 + x - borrow - y) / 65536 ≤ 1 := by omega
  have h1 : (65536 + x - borrow - y) % 65536 * P + y * P + borrow * P = x * P + (1 - (65536 + x - borrow - y) / 65536) * (65536 * P) := by
    rw [← Nat.mul_assoc, ← Nat.add_mul, ← Nat.add_mul, ← Nat.add_mul]; congr 1; omega
  omega
/-- digits are compared from the highest on -/
theorem cmp_lt (a b : List Nat) (i : Nat) (ha : Dig a) (hl : a.length = b.length) (hi : i < a.length) (he : a.drop (i + 1) = b.drop (i + 1)) (hlt : a.getD i 0 < b.getD i 0) : val a < val b := by
  have e1 : val a = val (a.take (i + 1)) + pw (i + 1) * val (a.drop (i + 1)) := by
    conv => lhs; rw [← List.take_append_drop (i + 1) a]
    rw [val_append, List.length_take, Nat.min_eq_left (by omega)]
  have e2 : val b = val (b.take (i + 1)) + pw (i + 1) * val (b.drop (i + 1)) := by
    conv => lhs; rw [← List.take_append_drop (i + 1) b]
    rw [val_append, List.length_take, Nat.min_eq_left (by omega)]
  rw [e1, e2, he, val_take_succ, val_take_succ]
  have h1 := val_lt (ha.take i)
  rw [List.length_take, Nat.min_eq_left (by omega)] at h1
  have h3 : (a.getD i 0 + 1) * pw i ≤ b.getD i 0 * pw i := Nat.mul_le_mul_right _ (by omega)
  rw [Nat.add_mul] at h3
  omega
end Go.Big
namespace Go.Big
theorem val_digit (a : List Nat) (j : Nat) (ha : Dig a) : val a / pw j % 65536 = a.getD j 0 := by
  induction a generalizing j with
  | nil => simp [val]
  | cons d l ih =>
    have hd := ha d (by simp)
    have hl : Dig l := fun x hx => ha x (by simp [hx])
    cases j with
    | zero => simp [val, pw]; omega
    | succ j =>
      rw [pw_succ, ← Nat.div_div_eq_div_mul]
      have : val (d :: l) / 65536 = val l := by simp only [val]; omega
      rw [this, ih j hl]; simp
theorem val_bit (a : List Nat) (i : Nat) (ha : Dig a) : val a / 2 ^ i % 2 = a.getD (i / 16) 0 / 2 ^ (i % 16) % 2 := by
  have e : (2 : Nat) ^ i = pw (i / 16) * 2 ^ (i % 16) := by
    unfold pw
    rw [show (65536 : Nat) = 2 ^ 16 from rfl, ← Nat.pow_mul, ← Nat.pow_add]; congr 1; omega
  rw [e, ← Nat.div_div_eq_div_mul, ← val_digit a (i / 16) ha]
  generalize val a / pw (i / 16) = n
  have hk : i % 16 < 16 := Nat.mod_lt _ (by omega)
  generalize i % 16 = k at hk
  have h2 : (65536 : Nat) = 2 ^ k * 2 ^ (16 - k) := by rw [← Nat.pow_add, show k + (16 - k) = 16 from by omega]
  have h3 : (2:Nat) ^ (16 - k) = 2 * 2 ^ (15 - k) := by rw [show 16 - k = (15 - k) + 1 from by omega, Nat.pow_succ, Nat.mul_comm]
  have h4 : n % 65536 / 2 ^ k = n / 2 ^ k % 2 ^ (16 - k) := by rw [h2, Nat.mod_mul_right_div_self]
  rw [h4, h3, Nat.mod_mul_right_mod]
/-- A digit of the quotient is raised. -/
theorem val_set (q : List Nat) (j x : Nat) (hj : j < q.length) : val (q.set j (q.getD j 0 + x)) = val q + x * pw j := by
  induction q generalizing j with
  | nil => simp at hj
  | cons d l ih =>
    cases j with
    | zero => simp [val, pw]; omega
    | succ j =>
      have := ih j (by simpa using hj)
      have e : (d :: l).getD (j + 1) 0 = l.getD j 0 := by simp
      rw [e]
      simp only [List.set_cons_succ, val, this, pw_succ]
      rw [Nat.mul_add, Nat.mul_left_comm 65536 x]; omega
/-- What stands before round i (i + 1 bits are still to come): the quotient of the bits above, the rest. -/
theorem div_step (A b i : Nat) (hb : 0 < b) (left q : Nat) (hleft : left = A / 2 ^ (i + 1) % b) (hq : q = A / 2 ^ (i + 1) / b * 2 ^ (i + 1)) :
    let l2 := 2 * left + A / 2 ^ i % 2
    (b ≤ l2 → l2 - b = A / 2 ^ i % b ∧ q + 2 ^ i = A / 2 ^ i / b * 2 ^ i) ∧ (l2 < b → l2 = A / 2 ^ i % b ∧ q = A / 2 ^ i / b * 2 ^ i) := by
  intro l2
  have hl : l2 = 2 * left + A / 2 ^ i % 2 := rfl
  clear_value l2
  have e1 : A / 2 ^ (i + 1) = A / 2 ^ i / 2 := by rw [Nat.pow_succ, Nat.div_div_eq_div_mul]
  rw [e1] at hleft hq
  have e2 : (2:Nat) ^ (i + 1) = 2 * 2 ^ i := by rw [Nat.pow_succ, Nat.mul_comm]
  rw [e2] at hq
  generalize A / 2 ^ i = N at *
  generalize (2:Nat) ^ i = P at *
  have hN : N = 2 * (N / 2) + N % 2 := by omega
  have hd := Nat.div_add_mod (N / 2) b
  have hlt := Nat.mod_lt (N / 2) hb
  have hl2 : l2 = 2 * (N / 2 % b) + N % 2 := by rw [hl, hleft]
  generalize N / 2 / b = d at *
  generalize N / 2 % b = r at *
  have hNb : N = b * (2 * d) + l2 := by rw [Nat.mul_left_comm]; omega
  constructor
  · intro h
    have h2 : l2 - b < b := by omega
    have hNb' : N = b * (2 * d + 1) + (l2 - b) := by rw [Nat.mul_add]; omega
    have hdiv : N / b = 2 * d + 1 := by rw [hNb', Nat.mul_add_div hb, Nat.div_eq_of_lt h2]
    have hmod : N % b = l2 - b := by rw [hNb', Nat.mul_add_mod, Nat.mod_eq_of_lt h2]
    refine ⟨hmod.symm, ?_⟩
    rw [hdiv, hq, Nat.add_mul]
    have : d * (2 * P) = 2 * d * P := by rw [← Nat.mul_assoc, Nat.mul_comm d 2]
    omega
  · intro h
    have hdiv : N / b = 2 * d := by rw [hNb, Nat.mul_add_div hb, Nat.div_eq_of_lt h, Nat.add_zero]
    have hmod : N % b = l2 := by rw [hNb, Nat.mul_add_mod, Nat.mod_eq_of_lt h]
    refine ⟨hmod.symm, ?_⟩
    rw [hdiv, hq]
    rw [← Nat.mul_assoc, Nat.mul_comm d 2]
/-- The quotient's digits while bits come in from above: digit i / 16 has only bits from i % 16 + 1 on, and all lower digits are nought. -/
def Bits (q : List Nat) (i : Nat) : Prop := Dig q ∧ (∀ j, j < i / 16 → q.getD j 0 = 0) ∧ q.getD (i / 16) 0 % 2 ^ (i % 16) = 0
theorem Bits.start (n : Nat) (i : Nat) : Bits (List.replicate n 0) i := by
  have h0 : ∀ j, (List.replicate n 0).getD j 0 = 0 := by
    intro j; rw [List.getD_eq_getElem?_getD, List.getElem?_replicate]; split <;> rfl
  refine ⟨fun d h => by have := List.eq_of_mem_replicate h; omega, fun j _ => h0 j, by rw [h0]; exact Nat.zero_mod _⟩
theorem getD_set (q : List Nat) (j k x : Nat) (hj : j < q.length) : (q.set j x).getD k 0 = if k = j then x else q.getD k 0 := by
  rw [List.getD_eq_getElem?_getD, List.getElem?_set]
  by_cases h : j = k
  · subst h; simp [hj]
  · rw [if_neg h, if_neg (fun e => h e.symm), List.getD_eq_getElem?_getD]
theorem Bits.down (q : List Nat) (i : Nat) (h : Bits q (i + 1)) : Bits q i := by
  obtain ⟨h1, h2, h3⟩ := h
  by_cases e : (i + 1) % 16 = 0
  · have e1 : (i + 1) / 16 = i / 16 + 1 := by omega
    rw [e1] at h2 h3
    refine ⟨h1, fun j hj => h2 j (by omega), by rw [h2 _ (by omega)]; exact Nat.zero_mod _⟩
  · have e1 : (i + 1) / 16 = i / 16 := by omega
    have e2 : (i + 1) % 16 = i % 16 + 1 := by omega
    rw [e1] at h2 h3
    rw [e2, Nat.pow_succ] at h3
    refine ⟨h1, h2, ?_⟩
    have := Nat.mod_mul_right_mod (q.getD (i / 16) 0) (2 ^ (i % 16)) 2
    rw [h3] at this; rw [← this]; exact Nat.zero_mod _
theorem dig_room (x k : Nat) (hk : k < 16) (hx : x < 65536) (hm : x % 2 ^ (k + 1) = 0) : x + 2 ^ k < 65536 ∧ (x + 2 ^ k) % 2 ^ k = 0 := by
  have h2 : (65536 : Nat) = 2 ^ (k + 1) * 2 ^ (15 - k) := by rw [← Nat.pow_add, show k + 1 + (15 - k) = 16 from by omega]
  have hp : 0 < (2:Nat) ^ k := Nat.pow_pos (by omega)
  have hs : (2:Nat) ^ (k + 1) = 2 * 2 ^ k := by rw [Nat.pow_succ, Nat.mul_comm]
  obtain ⟨c, hc⟩ := Nat.dvd_of_mod_eq_zero hm
  have hc2 : c < 2 ^ (15 - k) := by
    rw [h2, hc] at hx
    exact Nat.lt_of_mul_lt_mul_left hx
  have h4 : 2 ^ (k + 1) * (c + 1) ≤ 65536 := by rw [h2]; exact Nat.mul_le_mul_left _ (by omega)
  rw [Nat.mul_add, ← hc, hs] at h4
  refine ⟨by omega, ?_⟩
  rw [hc, hs, Nat.mul_right_comm, Nat.mul_comm (2 * c), ]
  rw [Nat.add_mod_right, Nat.mul_mod_right]
theorem Bits.set_ (q : List Nat) (i : Nat) (h : Bits q (i + 1)) (hi : i / 16 < q.length) :
    Bits (q.set (i / 16) (q.getD (i / 16) 0 + 2 ^ (i % 16))) i ∧ q.getD (i / 16) 0 + 2 ^ (i % 16) < 65536 := by
  have hz : q.getD (i / 16) 0 % 2 ^ (i % 16 + 1) = 0 := by
    obtain ⟨h1, h2, h3⟩ := h
    by_cases e : (i + 1) % 16 = 0
    · have e1 : (i + 1) / 16 = i / 16 + 1 := by omega
      rw [e1] at h2
      rw [h2 _ (by omega)]; exact Nat.zero_mod _
    · have e1 : (i + 1) / 16 = i / 16 := by omega
      have e2 : (i + 1) % 16 = i % 16 + 1 := by omega
      rw [e1, e2] at h3; exact h3
  have hd := dig_room _ _ (Nat.mod_lt i (by omega)) (h.1.getD (i / 16)) hz
  have hdown := h.down
  refine ⟨⟨?_, ?_, ?_⟩, hd.1⟩
  · intro d hm
    rcases List.mem_or_eq_of_mem_set hm with hm | rfl
    · exact h.1 d hm
    · exact hd.1
  · intro j hj
    rw [getD_set _ _ _ _ hi, if_neg (by omega)]
    exact hdown.2.1 j hj
  · rw [getD_set _ _ _ _ hi, if_pos rfl]; exact hd.2
theorem set_val (q : List Nat) (i : Nat) (hi : i / 16 < q.length) : val (q.set (i / 16) (q.getD (i / 16) 0 + 2 ^ (i % 16))) = val q + 2 ^ i := by
  rw [val_set _ _ _ hi]
  congr 1
  unfold pw
  rw [show (65536 : Nat) = 2 ^ 16 from rfl, ← Nat.pow_mul, ← Nat.pow_add]; congr 1; omega
theorem val_zero (n : Nat) : val (List.replicate n 0) = 0 := by
  induction n with
  | zero => rfl
  | succ n ih => simp [List.replicate_succ, val, ih]
end Go.Big
