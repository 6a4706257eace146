/- Contracts of the reference's digits and Print; no conditions on days. -/
import Derived.Test.YtokinadmeooaoaaDf
import Derived.Test.YtokinadmeooaoaaDi
namespace Go.Proofs.Ytokinadmeooaoaa
open Go.RowKit
def digs : Nat → Int → List Int
  | 0, _ => []
  | n + 1, v => digs n (v / 10) ++ [48 + v % 10]
theorem one_conv (c : Int) (W : World) : (convert 66 9 (.slice (some ⟨W.heap.size, 0, none⟩) 1 1)).run Try.prog (W.alloc (.cells #[.int .u8 c] 5)) = .ok (.string (strOfNums [c])) (W.alloc (.cells #[.int .u8 c] 5)) := by
  refine run_convert_bytes_arg (P := Try.prog) _ 66 5 Try.underlying66 Try.underlying5 W.heap.size 0 1 1 [c] rfl (fun i hi => ?_) 9 Try.underlying9
  have : i = 0 := by omega
  subst this
  rw [World.cell?_alloc_mark]; rfl
theorem strOfNums_append (a b : List Int) : strOfNums a ++ strOfNums b = strOfNums (a ++ b) := by
  unfold strOfNums
  rw [ByteArray.mk_append_mk, List.map_append]
theorem strOfNums_one (c : Int) : (strOfNums [c]).size = 1 := rfl
theorem digs_step (n k : Nat) (y : Int) (l : List Int) (hk : k < n) : digs (n - k) y ++ l = digs (n - (k + 1)) (y / 10) ++ ((48 + y % 10) :: l) := by
  rw [show n - k = (n - (k + 1)) + 1 from by omega]
  simp [digs]
theorem digits_any (v : Int) (n : Nat) (w : World) (h0 : 0 ≤ v) (h1 : v ≤ 9999) (hn : n ≤ 4) (r : ByteArray) (hr : strOfNums (digs n v) = r) :
    Calls Try.prog 44 #[.int .i64 v, .int .i64 n] w fun e w' => e = .returned (.string r) ∧ Below w.heap.size w w' := by
  have hcv := one_conv
  have hs1 := strOfNums_one
  have HR := Lib.hid hr
  clear hr
  go_enter Try.func44, Try.ntmps44
  go_wp2_with fail
  go_loopw [0, 5, 6] (fun x s i wr => ∃ (k : Nat) (y : Int) (a : ByteArray), i = .int .i64 k ∧ x = .int .i64 y ∧ s = .string a ∧ k ≤ n ∧ 0 ≤ y ∧ y ≤ 9999 ∧ a.size = k ∧ Hid (∃ l, a = strOfNums l ∧ digs n v = digs (n - k) y ++ l) ∧ Below w.heap.size w wr) (fun _ _ i _ => n - (intOf i).toNat)
  case atStart => exact ⟨0, v, _, rfl, rfl, rfl, Nat.zero_le _, h0, h1, rfl, ⟨[], rfl, by simp⟩, Below.refl _ _⟩
  case round =>
    obtain ⟨k, y, a, rfl, rfl, rfl, hk, y0, y1, ha, HA, hbel⟩ := hrel
    by_cases hlt : k < n
    · go_wp2
      go_roundw
      case rel =>
        refine ⟨k + 1, y / 10, _, by go_num, rfl, rfl, by omega, by omega, by omega, ?_, ?_, hbel.alloc hbel.size _⟩
        · rw [ByteArray.size_append, hs1, ha, Nat.add_comm]
        · obtain ⟨l, hl, hd⟩ := HA.out
          exact ⟨_, by rw [hl, strOfNums_append], by rw [hd, digs_step _ _ _ _ hlt]; rfl⟩
      case measure => simp [intOf]; omega
    · go_wp2
      go_ret
      obtain ⟨l, hl, hd⟩ := HA.out
      refine ⟨?_, hbel⟩
      rw [← HR.out, hd, show n - k = 0 from by omega, hl]; rfl
theorem digs_text (y m d : Int) : strOfNums (digs 4 y) ++ ⟨#[45]⟩ ++ strOfNums (digs 2 m) ++ ⟨#[45]⟩ ++ strOfNums (digs 2 d) = strOfNums (ptext y m d) := by
  have e : (⟨#[45]⟩ : ByteArray) = strOfNums [45] := rfl
  rw [e, strOfNums_append, strOfNums_append, strOfNums_append, strOfNums_append]
  congr 1
  have h1 : y / 10 / 10 / 10 % 10 = y / 100 / 10 % 10 := by omega
  have h2 : y / 10 / 10 % 10 = y / 100 % 10 := by omega
  simp [digs, ptext, two, h1, h2]
theorem digs_size (n : Nat) (v : Int) : (strOfNums (digs n v)).size = n := by
  rw [strOfNums_size]
  induction n generalizing v with
  | zero => rfl
  | succ n ih => simp [digs, ih]
set_option maxHeartbeats 400000 in
theorem rprint_any (n : Int) (w : World) :
    Calls Try.prog 30 #[.int .i64 n] w fun e w' => e = .returned (.string (dtext n)) ∧ Below w.heap.size w w' := by
  cases hd : isD n
  · have hD : Ending.returned (.string ⟨#[]⟩) = .returned (.string (dtext n)) := by unfold dtext; rw [hd]; rfl
    have HD := Lib.hid hD
    have hz : cY n = 0 := by unfold cY; rw [hd]; rfl
    have HZ := Lib.hid hz
    clear hD hd hz
    go_enter Try.func30, Try.ntmps30
    go_wp2_with fail
    refine (rciv_any _ _).mono ?_; rintro e w1 ⟨rfl, b1⟩
    rw [HZ.out]
    go_wp2
    go_ret
    exact ⟨HD.out, b1⟩
  · obtain ⟨h0, h1⟩ := (isD_iff n).1 hd
    obtain ⟨⟨a1, a2, a3, a4, a5, a6⟩, _⟩ := Cal.civil_ok n h0 h1
    have a7 : Cal.D n ≤ 31 := by have := Cal.dim_le (Cal.Y n) (Cal.M n); omega
    have e1 : cY n = Cal.Y n := by unfold cY; rw [if_pos hd]
    have e2 : cM n = Cal.M n := by unfold cM; rw [if_pos hd]
    have e3 : cD n = Cal.D n := by unfold cD; rw [if_pos hd]
    have hD : Ending.returned (.string (strOfNums (digs 4 (Cal.Y n)) ++ ⟨#[45]⟩ ++ strOfNums (digs 2 (Cal.M n)) ++ ⟨#[45]⟩ ++ strOfNums (digs 2 (Cal.D n)))) = .returned (.string (dtext n)) := by
      rw [digs_text]; unfold dtext; rw [if_pos hd]
    have HD := Lib.hid hD
    have HE := Lib.hid (And.intro e1 (And.intro e2 e3))
    clear hD hd a6 e1 e2 e3
    generalize Cal.Y n = y at *
    generalize Cal.M n = m at *
    generalize Cal.D n = d at *
    have z1 := digs_size 4 y
    have z2 := digs_size 2 m
    have z3 := digs_size 2 d
    have hy0 : (y == 0) = false := by simp; omega
    generalize hA : strOfNums (digs 4 y) = A at *
    generalize hB : strOfNums (digs 2 m) = B at *
    generalize hC : strOfNums (digs 2 d) = C at *
    have HA := Lib.hid hA
    have HB := Lib.hid hB
    have HC := Lib.hid hC
    clear hA hB hC
    go_enter Try.func30, Try.ntmps30
    go_wp2_with fail
    refine (rciv_any _ _).mono ?_; rintro e w1 ⟨rfl, b1⟩
    rw [HE.out.1, HE.out.2.1, HE.out.2.2]
    go_wp2_with fail
    refine (digits_any y 4 _ (by omega) (by omega) (by omega) A HA.out).mono ?_; rintro e w2 ⟨rfl, b2⟩
    go_wp2_with fail
    refine (digits_any m 2 _ (by omega) (by omega) (by omega) B HB.out).mono ?_; rintro e w3 ⟨rfl, b3⟩
    go_wp2_with fail
    refine (digits_any d 2 _ (by omega) (by omega) (by omega) C HC.out).mono ?_; rintro e w4 ⟨rfl, b4⟩
    go_wp2
    go_ret
    have c2 := b1.trans (b2.mono b1.size)
    have c3 := c2.trans (b3.mono c2.size)
    exact ⟨HD.out, c3.trans (b4.mono c3.size)⟩
end Go.Proofs.Ytokinadmeooaoaa
