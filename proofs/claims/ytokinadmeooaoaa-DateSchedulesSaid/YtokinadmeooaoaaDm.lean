/- The plain law of Parse: the program's and the reference's answers agree. -/
import Derived.Test.YtokinadmeooaoaaDl
import Derived.Test.YtokinadmeooaoaaLback
namespace Go.Proofs.Ytokinadmeooaoaa
open Go.RowKit
def bt (s : ByteArray) (k : Nat) : Int := ((s.data.toList.getD k 0).toNat : Int)
theorem bt_eq (s : ByteArray) (k : Nat) (h : k < s.size) : ((s[k]'h).toNat : Int) = bt s k := by
  unfold bt; rw [List.getD_eq_getElem?_getD, at_list s k h]; rfl
theorem bt_bd (s : ByteArray) (k : Nat) : 0 ≤ bt s k ∧ bt s k ≤ 255 := by
  unfold bt; have := (s.data.toList.getD k 0).toNat_lt; omega
def kOf (i : Nat) : Nat := if 7 < i then 2 else if 4 < i then 1 else 0
/-- The three numbers behind i bytes. -/
def accs (s : ByteArray) : Nat → Int × Int × Int
  | 0 => (0, 0, 0)
  | i + 1 =>
    let (a, b, c) := accs s i
    if i = 4 ∨ i = 7 then (a, b, c) else if 7 < i then (a, b, 10 * c + bt s i - 48) else if 4 < i then (a, 10 * b + bt s i - 48, c) else (10 * a + bt s i - 48, b, c)
theorem accs_bd (s : ByteArray) (i : Nat) (h : i ≤ 10) : (accs s i).1 ≤ 300000000 ∧ -300000000 ≤ (accs s i).1 ∧ (accs s i).2.1 ≤ 300000000 ∧ -300000000 ≤ (accs s i).2.1 ∧ (accs s i).2.2 ≤ 300000000 ∧ -300000000 ≤ (accs s i).2.2 := by
  have hb := bt_bd s
  have : i = 0 ∨ i = 1 ∨ i = 2 ∨ i = 3 ∨ i = 4 ∨ i = 5 ∨ i = 6 ∨ i = 7 ∨ i = 8 ∨ i = 9 ∨ i = 10 := by omega
  have b0 := hb 0
  have b1 := hb 1
  have b2 := hb 2
  have b3 := hb 3
  have b5 := hb 5
  have b6 := hb 6
  have b8 := hb 8
  have b9 := hb 9
  rcases this with rfl | rfl | rfl | rfl | rfl | rfl | rfl | rfl | rfl | rfl | rfl <;> simp [accs] <;> omega
def refParse (s : ByteArray) : Int :=
  if s.size = 10 then
    let n := refOf (accs s 10).1 (accs s 10).2.1 (accs s 10).2.2
    if n < 0 then -1 else if dtext n = s then n else -1
  else -1
theorem refOf_num (y m d : Int) (h : ¬ refOf y m d < 0) : vB y m d = true ∧ refOf y m d = Cal.num y m d := by
  unfold refOf at *
  cases hb : vB y m d
  · rw [hb] at h; simp at h
  · exact ⟨rfl, by rw [if_pos rfl]⟩
theorem list10 {l : List UInt8} (h : l.length = 10) : ∃ a b c d e f g i j k, l = [a, b, c, d, e, f, g, i, j, k] := by
  match l, h with
  | [a, b, c, d, e, f, g, i, j, k], _ => exact ⟨a, b, c, d, e, f, g, i, j, k, rfl⟩
theorem dig_back (c : UInt8) (x : Int) (h : (c.toNat : Int) = 48 + x) : UInt8.ofNat (48 + x).toNat = c := by
  rw [← h]; simp
theorem decF4 (a b c d : UInt8) (h : 0 ≤ decF 0 [a, b, c, d]) : ∃ x y z w : Int, (a.toNat : Int) = 48 + x ∧ (b.toNat : Int) = 48 + y ∧ (c.toNat : Int) = 48 + z ∧ (d.toNat : Int) = 48 + w ∧ 0 ≤ x ∧ x ≤ 9 ∧ 0 ≤ y ∧ y ≤ 9 ∧ 0 ≤ z ∧ z ≤ 9 ∧ 0 ≤ w ∧ w ≤ 9 ∧ decF 0 [a, b, c, d] = 1000 * x + 100 * y + 10 * z + w := by
  refine ⟨a.toNat - 48, b.toNat - 48, c.toNat - 48, d.toNat - 48, by omega, by omega, by omega, by omega, ?_⟩
  simp only [decF] at h ⊢
  repeat' split at h
  all_goals first | omega | (simp only [if_pos, *] at *; omega)
theorem decF2 (a b : UInt8) (h : 0 ≤ decF 0 [a, b]) : ∃ x y : Int, (a.toNat : Int) = 48 + x ∧ (b.toNat : Int) = 48 + y ∧ 0 ≤ x ∧ x ≤ 9 ∧ 0 ≤ y ∧ y ≤ 9 ∧ decF 0 [a, b] = 10 * x + y := by
  refine ⟨a.toNat - 48, b.toNat - 48, by omega, by omega, ?_⟩
  simp only [decF] at h ⊢
  repeat' split at h
  all_goals first | omega | (simp only [if_pos, *] at *; omega)
theorem text_back (s : ByteArray) (h10 : s.size = 10) (hd : dash s) (h1 : 0 ≤ parN s 0 4) (h2 : 0 ≤ parN s 5 7) (h3 : 0 ≤ parN s 8 10) :
    strOfNums (ptext (parN s 0 4) (parN s 5 7) (parN s 8 10)) = s ∧ (accs s 10).1 = parN s 0 4 ∧ (accs s 10).2.1 = parN s 5 7 ∧ (accs s 10).2.2 = parN s 8 10 := by
  have hl : s.data.toList.length = 10 := by simpa using h10
  obtain ⟨a, b, c, d, e, f, g, i, j, k, hL⟩ := list10 hl
  obtain ⟨_, hd4, hd7⟩ := hd
  rw [hL] at hd4 hd7
  have he : e = 45 := by simpa using hd4
  have hi : i = 45 := by simpa using hd7
  subst he
  subst hi
  have hs : s = ⟨s.data.toList.toArray⟩ := by simp
  have ha : accs s 10 = accs ⟨s.data.toList.toArray⟩ 10 := by rw [← hs]
  rw [hL] at hs ha
  rw [ha]
  unfold parN at *
  rw [hL] at h1 h2 h3 ⊢
  clear ha
  simp only [List.drop_succ_cons, List.drop_zero, List.take_succ_cons, List.take_zero, Nat.reduceSub] at *
  obtain ⟨x1, x2, x3, x4, e1, e2, e3, e4, p1, p2, p3, p4, p5, p6, p7, p8, q1⟩ := decF4 _ _ _ _ h1
  obtain ⟨y1, y2, f1, f2, p9, p10, p11, p12, q2⟩ := decF2 _ _ h2
  obtain ⟨z1, z2, g1, g2, p13, p14, p15, p16, q3⟩ := decF2 _ _ h3
  rw [q1, q2, q3]
  refine ⟨?_, ?_, ?_, ?_⟩
  · rw [hs]
    unfold strOfNums ptext two
    congr 2
    simp only [List.cons_append, List.nil_append, List.map_cons, List.map_nil]
    have w1 : (1000 * x1 + 100 * x2 + 10 * x3 + x4) / 100 / 10 % 10 = x1 := by omega
    have w2 : (1000 * x1 + 100 * x2 + 10 * x3 + x4) / 100 % 10 = x2 := by omega
    have w3 : (1000 * x1 + 100 * x2 + 10 * x3 + x4) / 10 % 10 = x3 := by omega
    have w4 : (1000 * x1 + 100 * x2 + 10 * x3 + x4) % 10 = x4 := by omega
    have w5 : (10 * y1 + y2) / 10 % 10 = y1 := by omega
    have w6 : (10 * y1 + y2) % 10 = y2 := by omega
    have w7 : (10 * z1 + z2) / 10 % 10 = z1 := by omega
    have w8 : (10 * z1 + z2) % 10 = z2 := by omega
    rw [w1, w2, w3, w4, w5, w6, w7, w8, dig_back _ _ e1, dig_back _ _ e2, dig_back _ _ e3, dig_back _ _ e4, dig_back _ _ f1, dig_back _ _ f2, dig_back _ _ g1, dig_back _ _ g2]
    rfl
  all_goals (simp [accs, bt]; omega)
theorem told_parse (s : ByteArray) : toldB (parseN s) (parseB s) (refParse s) = true := by
  have hp : parseB s = true → parseN s = refParse s ∧ 0 ≤ refParse s := by
    intro h
    have h' := h
    unfold parseB at h'
    simp only [Bool.and_eq_true, decide_eq_true_eq] at h'
    obtain ⟨hd, hv⟩ := h'
    have hv' : Cal.vld (parN s 0 4) (parN s 5 7) (parN s 8 10) := by unfold vB at hv; simpa using hv
    obtain ⟨t1, t2, t3, t4⟩ := text_back s hd.1 hd (by have := hv'.1; omega) (by have := hv'.2.2.1; omega) (by have := hv'.2.2.2.2.1; omega)
    have hr := Cal.num_range _ _ _ hv'
    have hN : parseN s = Cal.num (parN s 0 4) (parN s 5 7) (parN s 8 10) := by unfold parseN; rw [if_pos h]
    obtain ⟨u1, u2, u3⟩ := Cal.civil_uniq _ _ _ _ hv' rfl
    have htx : dtext (Cal.num (parN s 0 4) (parN s 5 7) (parN s 8 10)) = s := by
      unfold dtext; rw [if_pos ((isD_iff _).2 hr), u1, u2, u3, t1]
    have hR : refParse s = Cal.num (parN s 0 4) (parN s 5 7) (parN s 8 10) := by
      unfold refParse; rw [if_pos hd.1, t2, t3, t4]
      have : refOf (parN s 0 4) (parN s 5 7) (parN s 8 10) = Cal.num (parN s 0 4) (parN s 5 7) (parN s 8 10) := by unfold refOf; rw [if_pos hv]
      rw [this]
      show (if Cal.num (parN s 0 4) (parN s 5 7) (parN s 8 10) < 0 then -1 else _) = _
      rw [if_neg (by omega), if_pos htx]
    rw [hN, hR]; exact ⟨rfl, hr.1⟩
  have hn : parseB s = false → refParse s = -1 := by
    intro h
    unfold refParse
    by_cases h10 : s.size = 10
    · rw [if_pos h10]
      show (if refOf _ _ _ < 0 then -1 else _) = _
      by_cases h0 : refOf (accs s 10).1 (accs s 10).2.1 (accs s 10).2.2 < 0
      · rw [if_pos h0]
      · rw [if_neg h0]
        obtain ⟨hv, he⟩ := refOf_num _ _ _ h0
        have hr := Cal.num_range _ _ _ (by unfold vB at hv; simpa using hv)
        rw [← he] at hr
        by_cases ht : dtext (refOf (accs s 10).1 (accs s 10).2.1 (accs s 10).2.2) = s
        · have := (parse_print _ ((isD_iff _).2 hr)).1
          rw [ht, h] at this; simp at this
        · rw [if_neg ht]
    · rw [if_neg h10]
  cases h : parseB s
  · have hz : parseN s = 0 := by unfold parseN; rw [h]; rfl
    rw [hz, hn h]; rfl
  · obtain ⟨h1, h2⟩ := hp h
    unfold toldB; rw [h1]; simp [h2]
end Go.Proofs.Ytokinadmeooaoaa
