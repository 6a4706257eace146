/- The contract of Parse, for every text that can be read. -/
import Derived.Test.YtokinadmeooaoaaDd
namespace Go.Proofs.Ytokinadmeooaoaa
open Go.RowKit
def parN (s : ByteArray) (f t : Nat) : Int := decF 0 ((s.data.toList.drop f).take (t - f))
def dash (s : ByteArray) : Prop := s.size = 10 ∧ s.data.toList[4]? = some 45 ∧ s.data.toList[7]? = some 45
instance (s : ByteArray) : Decidable (dash s) := by unfold dash; infer_instance
def parseB (s : ByteArray) : Bool := decide (dash s) && vB (parN s 0 4) (parN s 5 7) (parN s 8 10)
def parseN (s : ByteArray) : Int := if parseB s then Cal.num (parN s 0 4) (parN s 5 7) (parN s 8 10) else 0
theorem at_list (s : ByteArray) (k : Nat) (h : k < s.size) : s.data.toList[k]? = some (s[k]'h) := by
  rw [List.getElem?_eq_getElem (by simpa using h)]; rfl
theorem dash_at (s : ByteArray) (h : s.size = 10) : dash s ↔ ((s[4]'(by omega)).toNat : Int) = 45 ∧ ((s[7]'(by omega)).toNat : Int) = 45 := by
  unfold dash
  rw [at_list s 4 (by omega), at_list s 7 (by omega)]
  have e : ∀ c : UInt8, (some c = some 45) ↔ ((c.toNat : Int) = 45) := by
    intro c
    constructor
    · intro h; injection h with h; subst h; rfl
    · intro h; congr 1; apply UInt8.toNat.inj; have : (45 : UInt8).toNat = 45 := rfl; omega
  rw [e, e]
  exact ⟨fun h => h.2, fun h' => ⟨h, h'⟩⟩
theorem parse_ret_no (s : ByteArray) (h : ¬ dash s) : Ending.returned (.tuple #[.int .i64 0, .bool false]) = .returned (.tuple #[.int .i64 (parseN s), .bool (parseB s)]) := by
  have hb : parseB s = false := by unfold parseB; simp [h]
  exact ret2 (by unfold parseN; rw [hb]; rfl) hb.symm
theorem parse_ret_yes (s : ByteArray) (h : dash s) : Ending.returned (.tuple #[.int .i64 (ofN (parN s 0 4) (parN s 5 7) (parN s 8 10)), .bool (vB (parN s 0 4) (parN s 5 7) (parN s 8 10))]) = .returned (.tuple #[.int .i64 (parseN s), .bool (parseB s)]) := by
  have hb : parseB s = vB (parN s 0 4) (parN s 5 7) (parN s 8 10) := by unfold parseB; simp [h]
  exact ret2 (by unfold parseN ofN; rw [hb]) hb.symm
theorem cell_boxed (w : World) (v : Value) (t : TypeId) : (w.alloc (.cells #[v] t)).cell? ⟨w.heap.size, 0, none⟩ = some v := by
  rw [World.cell?_alloc_mark]; rfl
set_option maxHeartbeats 1000000 in
theorem parse_any (s : ByteArray) (w : World) (hs : s.size ≤ maxLen) :
    Calls Try.prog 27 #[.string s] w fun e w' => e = .returned (.tuple #[.int .i64 (parseN s), .bool (parseB s)]) ∧ Below w.heap.size w w' := by
  unfold maxLen at hs
  have hN := parse_ret_no s
  have HN := Lib.hid hN
  clear hN
  have hY := parse_ret_yes s
  have HY := Lib.hid hY
  clear hY
  by_cases h10 : s.size = 10
  · have HD := Lib.hid (dash_at s h10)
    have H10 := Lib.hid h10
    have hcl := cell_boxed w (.string s) 9
    have b0 : Below w.heap.size w (w.alloc (.cells #[.string s] 9)) := (Below.refl _ _).alloc (Nat.le_refl _) _
    go_enter Try.func27, Try.ntmps27
    go_wp2_with fail
    · have h4 : ((s[4]'(by omega)).toNat : Int) = 45 := by assumption
      have h7 : (((s[7]'(by omega)).toNat : Int) != 45) = true := by assumption
      go_ret2
      exact ⟨HN.out (fun h => by have := (HD.out.1 h).2; simp [this] at h7), b0⟩
    · have h4 : ((s[4]'(by omega)).toNat : Int) = 45 := by assumption
      have h7 : (((s[7]'(by omega)).toNat : Int) != 45) = false := by assumption
      have h7' : ((s[7]'(by omega)).toNat : Int) = 45 := by simpa using h7
      have HDD := Lib.hid (HD.out.2 ⟨h4, h7'⟩)
      clear HD
      have hle : 10 ≤ s.size := by rw [H10.out]; exact Nat.le_refl _
      refine (part_any s 0 4 _ _ _ (by exact hcl) (by omega) (by omega) (by omega) _ rfl).mono ?_
      rintro e w1 ⟨rfl, b1⟩
      have hcl1 : w1.cell? ⟨w.heap.size, 0, none⟩ = some (.string s) := (b1.cell (by simp)).trans hcl
      go_wp2_with fail
      refine (part_any s 5 7 _ _ _ (by exact hcl1) (by omega) (by omega) (by omega) _ rfl).mono ?_
      rintro e w2 ⟨rfl, b2⟩
      have hcl2 : w2.cell? ⟨w.heap.size, 0, none⟩ = some (.string s) := (b2.cell (by have := b1.size; simp at this; show w.heap.size < _; omega)).trans hcl1
      go_wp2_with fail
      refine (part_any s 8 10 _ _ _ (by exact hcl2) (by omega) (by omega) (by omega) _ rfl).mono ?_
      rintro e w3 ⟨rfl, b3⟩
      go_wp2_with fail
      refine (of_any _ _ _ _).mono ?_
      rintro e w4 ⟨rfl, rfl⟩
      go_wp2
      go_ret2
      have s1 := b1.size
      have s2 := b2.size
      simp at s1
      exact ⟨HY.out HDD.out, ((b0.trans (b1.mono (by simp))).trans (b2.mono (by omega))).trans (b3.mono (by omega))⟩
    · have h4 : ¬ ((s[4]'(by omega)).toNat : Int) = 45 := by assumption
      go_ret2
      exact ⟨HN.out (fun h => h4 (HD.out.1 h).1), b0⟩
  · have h10' : ¬ (s.size : Int) = 10 := by omega
    go_enter Try.func27, Try.ntmps27
    go_wp2
    go_ret2
    exact ⟨HN.out (fun h => h10 h.1), (Below.refl _ _).alloc (Nat.le_refl _) _⟩
end Go.Proofs.Ytokinadmeooaoaa
