/- A contract of the closure in Parse; the number of digits. -/
import Derived.Test.YtokinadmeooaoaaDc
import Derived.WalkSpells
namespace Go.Proofs.Ytokinadmeooaoaa
open Go.RowKit
def decF (v : Int) : List UInt8 → Int
  | [] => v
  | c :: cs => if 48 ≤ (c.toNat : Int) ∧ (c.toNat : Int) ≤ 57 then decF (10 * v + ((c.toNat : Int) - 48)) cs else -1
theorem bytes_cell (w : World) (s : ByteArray) (cap e : Nat) (fz : Nat × Nat) (k : Nat) (hk : k < s.size) :
    ∃ c : UInt8, s.data.toList.drop k = c :: s.data.toList.drop (k + 1) ∧ (w.alloc (.cells (bytesRow s cap) e fz)).cell? ⟨w.heap.size, k, none⟩ = some (.int .u8 (c.toNat : Int)) := by
  have hk' : k < s.data.size := hk
  refine ⟨s.data[k], ?_, ?_⟩
  · rw [List.drop_eq_getElem_cons (by simpa using hk')]; simp
  · rw [World.cell?_alloc_mark, bytesRow_at _ _ _ hk']
theorem extract_size (s : ByteArray) (f t : Nat) (hft : f ≤ t) (ht : t ≤ s.size) : (s.extract f t).size = t - f := by simp; omega
theorem pow4 (k : Nat) (h : k ≤ 4) : (10 : Int) ^ k ≤ 10000 := by
  have : k = 0 ∨ k = 1 ∨ k = 2 ∨ k = 3 ∨ k = 4 := by omega
  rcases this with rfl | rfl | rfl | rfl | rfl <;> decide
theorem extract_list (s : ByteArray) (f t : Nat) : (s.extract f t).data.toList = (s.data.toList.drop f).take (t - f) := by simp
set_option maxHeartbeats 400000 in
theorem part_any (s : ByteArray) (f t : Nat) (b o : Nat) (w : World) (hc : w.cell? ⟨b, o, none⟩ = some (.string s)) (hft : f ≤ t) (ht : t ≤ s.size) (h4 : t ≤ f + 4) (r : Int) (hr : decF 0 ((s.data.toList.drop f).take (t - f)) = r) :
    Calls Try.prog 42 #[.int .i64 f, .int .i64 t, .pointer (some ⟨b, o, none⟩)] w fun e w' => e = .returned (.int .i64 r) ∧ Below w.heap.size w w' := by
  have hcv := fun w s => run_bytes_of_string (P := Try.prog) w 9 66 5 s Try.underlying9 Try.underlying66 Try.underlying5
  have hsz := extract_size s f t hft ht
  have HSZ := Lib.hid hsz
  rw [← extract_list] at hr
  have HR := Lib.hid hr
  clear hr
  clear hsz
  go_enter Try.func42, Try.ntmps42
  go_wp2
  clear hcv
  have hbel : Below w.heap.size w (w.alloc (Obj.cells (bytesRow (s.extract f t) (grownCap w (t - f) 0 5)) 5 ((bytesRow (s.extract f t) (grownCap w (t - f) 0 5)).size, (bytesRow (s.extract f t) (grownCap w (t - f) 0 5)).size + 1))).drew :=
    ((Below.refl _ _).alloc (Nat.le_refl _) _).drew
  have hcell := fun k hk => bytes_cell w (s.extract f t) (grownCap w (t - f) 0 5) 5 ((bytesRow (s.extract f t) (grownCap w (t - f) 0 5)).size, (bytesRow (s.extract f t) (grownCap w (t - f) 0 5)).size + 1) k hk
  rw [HSZ.out] at hcell
  have HC := Lib.hid hcell
  clear hcell
  generalize (grownCap w (t - f) 0 5) = cap at *
  generalize (s.extract f t) = x at *
  generalize ((bytesRow x cap).size, (bytesRow x cap).size + 1) = fz at *
  generalize (bytesRow x cap) = C at *
  go_loop [6, 15] (fun v i => ∃ (k : Nat) (n : Int), k ≤ t - f ∧ i = .int .i64 k ∧ v = .int .i64 n ∧ 0 ≤ n ∧ n < 10 ^ k ∧ decF 0 x.data.toList = decF n (x.data.toList.drop k)) (fun _ i => (t - f) - (intOf i).toNat)
  case atStart => exact ⟨0, 0, Nat.zero_le _, rfl, rfl, by omega, by simp, by simp⟩
  case round =>
    obtain ⟨k, n, hk, rfl, rfl, hn0, hn1, hd⟩ := hrel
    have HD := Lib.hid hd
    clear hd
    have hn2 : n < 10000 := by
      have := pow4 k (by omega)
      omega
    have HN := Lib.hid hn1
    clear hn1
    by_cases hlt : k < t - f
    · obtain ⟨c, hc1, hc2⟩ := HC.out k hlt
      have hcb : (c.toNat : Int) < 256 := by have := c.toNat_lt; omega
      have hst : decF n (x.data.toList.drop k) = if 48 ≤ (c.toNat : Int) ∧ (c.toNat : Int) ≤ 57 then decF (10 * n + ((c.toNat : Int) - 48)) (x.data.toList.drop (k + 1)) else -1 := by rw [hc1]; rfl
      have HST := Lib.hid hst
      clear hst hc1
      generalize (c.toNat : Int) = cn at *
      by_cases hdg : 48 ≤ cn ∧ cn ≤ 57
      · obtain ⟨d1, d2⟩ := hdg
        go_wp2
        go_round
        case rel =>
          refine ⟨k + 1, 10 * n + (cn - 48), by omega, by go_num, by go_num, by omega, ?_, ?_⟩
          · have := HN.out; rw [Int.pow_succ]; omega
          · rw [HD.out, HST.out, if_pos ⟨d1, d2⟩]
        case measure => simp [intOf]; omega
      · by_cases d1 : cn < 48
        all_goals
          go_wp2
          go_ret
          exact ⟨ret_int (by rw [← HR.out, HD.out, HST.out, if_neg (by omega)]), hbel⟩
    · go_wp2
      go_ret
      exact ⟨ret_int (by rw [← HR.out, HD.out, List.drop_of_length_le (by have := HSZ.out; simp; omega)]; rfl), hbel⟩
end Go.Proofs.Ytokinadmeooaoaa
