import Derived.Test.YtokinadmeooaoaaBe
import Derived.OpenShut
namespace Go.Proofs.Ytokinadmeooaoaa
open Go.RowKit
theorem lit4 (w : World) (g : Nat) (z1 z2 z3 z4 : Int) (n1 n2 n3 n4 : Nat) (hg : g = w.heap.size) (h1 : z1 = n1) (h2 : z2 = n2) (h3 : z3 = n3) (h4 : z4 = n4) :
    Nums (w.alloc (.cells #[.int .u64 z1, .int .u64 z2, .int .u64 z3, .int .u64 z4] 73)) (some ⟨g, 0, none⟩) 4 4 [n1, n2, n3, n4] := by
  subst hg h1 h2 h3 h4
  refine ⟨rfl, Nat.le_refl _, by decide, fun _ => ⟨w.heap.size, 0, rfl, by simp, fun i x hx => ?_⟩⟩
  have := (Mem.Blk.new w 73 #[.int .u64 (n1 : Int), .int .u64 (n2 : Int), .int .u64 (n3 : Int), .int .u64 (n4 : Int)]).cell (0 + i)
  rw [this, Nat.zero_add]
  match i, hx with
  | 0, hx => simp at hx; subst hx; rfl
  | 1, hx => simp at hx; subst hx; rfl
  | 2, hx => simp at hx; subst hx; rfl
  | 3, hx => simp at hx; subst hx; rfl
  | k + 4, hx => simp at hx
def ofD (n : Nat) : List Nat := [n % 65536, n / 65536 % 65536, n / 4294967296 % 65536, n / 281474976710656]
theorem ofD_dig (n : Nat) (h : n ≤ 9223372036854775808) : Big.Dig (ofD n) := by
  intro d hd; unfold ofD at hd; simp at hd
  rcases hd with rfl | rfl | rfl | rfl <;> omega
theorem ofD_val (n : Nat) : Big.val (ofD n) = n := by
  unfold ofD; simp [Big.val]; omega
theorem wrap_neg2 (n : Nat) (h : n ≤ 9223372036854775808) : IntKind.u64.wrap (-IntKind.u64.wrap (-(n : Int))) = n := by
  simp only [IntKind.wrap_u64]; omega
set_option maxHeartbeats 1000000 in
theorem bigof_any (a : Int) (w : World) (h0 : -9223372036854775808 ≤ a) (h1 : a ≤ 9223372036854775807) :
    Calls Try.prog 40 #[.int .i64 a] w fun e w' => (∃ r, e = .returned r ∧ BigR w' r a) ∧ Below w.heap.size w w' := by
  have HD := Lib.hid (ofD_dig a.natAbs (by omega))
  have HV := Lib.hid (ofD_val a.natAbs)
  have BW := Lib.hid (fun o o2 : Obj => (((Below.refl _ w).alloc (Nat.le_refl _) o).alloc (by simp) o2 : Below w.heap.size w _))
  by_cases hz : a < 0
  · obtain ⟨n, hn, rfl⟩ : ∃ n : Nat, 1 ≤ n ∧ a = -(n : Int) := ⟨a.natAbs, by omega, by omega⟩
    have e : Hid ((-(n : Int)).natAbs = n) := by show _ = _; omega
    have hwr := wrap_neg2 n (by omega)
    rw [e.out] at HD HV
    go_enter Try.func40, Try.ntmps40
    go_wp2_with fail
    refine (trim_any _ _ _ (ofD n) _ (lit4 _ _ _ _ _ _ _ _ _ _ (by simp) (by omega) (by omega) (by omega) (by omega))).mono ?_
    rintro e' w' ⟨rfl, rfl⟩
    have N1 := fun o : Obj => lit4 (w.alloc o) (w.heap.size + 1) ((n : Int) % 65536) ((n : Int) / 65536 % 65536) ((n : Int) / 4294967296 % 65536) ((n : Int) / 281474976710656) (n % 65536) (n / 65536 % 65536) (n / 4294967296 % 65536) (n / 281474976710656) (by simp) (by omega) (by omega) (by omega) (by omega)
    have hb : ∀ o : Obj, BigR ((w.alloc o).alloc (.cells #[.int .u64 ((n : Int) % 65536), .int .u64 ((n : Int) / 65536 % 65536), .int .u64 ((n : Int) / 4294967296 % 65536), .int .u64 ((n : Int) / 281474976710656)] 73)) (.agg #[.bool true, .slice (some ⟨w.heap.size + 1, 0, none⟩) (Big.trim (ofD n)).length 4]) (-(n : Int)) := by
      intro o
      refine ⟨.slice (some ⟨w.heap.size + 1, 0, none⟩) (Big.trim (ofD n)).length 4, by first | (simp; omega) | simp, ?_⟩
      rw [e.out]
      have := (N1 o).take (Big.trim (ofD n)).length (trim_le (ofD n))
      rw [show [n % 65536, n / 65536 % 65536, n / 4294967296 % 65536, n / 281474976710656] = ofD n from rfl, ← trim_len] at this
      have h := MagR.trim this HD.out
      rw [HV.out] at h
      exact h
    have HB := Lib.hid hb
    clear N1 hb
    generalize (Big.trim (ofD n)).length = k at *
    go_wp2
    refine bodyPost_ret (v := .agg #[.bool true, .slice (some ⟨w.heap.size + 1, 0, none⟩) k 4]) (by simp [results, Try.results40, go_sem]) rfl ⟨⟨_, rfl, HB.out _⟩, ?_⟩
    exact BW.out _ _
  · obtain ⟨n, rfl⟩ : ∃ n : Nat, a = (n : Int) := ⟨a.toNat, by omega⟩
    have e : Hid ((n : Int).natAbs = n) := by show _ = _; omega
    rw [e.out] at HD HV
    go_enter Try.func40, Try.ntmps40
    go_wp2_with fail
    refine (trim_any _ _ _ (ofD n) _ (lit4 _ _ _ _ _ _ _ _ _ _ (by simp) (by omega) (by omega) (by omega) (by omega))).mono ?_
    rintro e' w' ⟨rfl, rfl⟩
    have N1 := fun o : Obj => lit4 (w.alloc o) (w.heap.size + 1) ((n : Int) % 65536) ((n : Int) / 65536 % 65536) ((n : Int) / 4294967296 % 65536) ((n : Int) / 281474976710656) (n % 65536) (n / 65536 % 65536) (n / 4294967296 % 65536) (n / 281474976710656) (by simp) (by omega) (by omega) (by omega) (by omega)
    have hb : ∀ o : Obj, BigR ((w.alloc o).alloc (.cells #[.int .u64 ((n : Int) % 65536), .int .u64 ((n : Int) / 65536 % 65536), .int .u64 ((n : Int) / 4294967296 % 65536), .int .u64 ((n : Int) / 281474976710656)] 73)) (.agg #[.bool false, .slice (some ⟨w.heap.size + 1, 0, none⟩) (Big.trim (ofD n)).length 4]) ((n : Int)) := by
      intro o
      refine ⟨.slice (some ⟨w.heap.size + 1, 0, none⟩) (Big.trim (ofD n)).length 4, by first | (simp; omega) | simp, ?_⟩
      rw [e.out]
      have := (N1 o).take (Big.trim (ofD n)).length (trim_le (ofD n))
      rw [show [n % 65536, n / 65536 % 65536, n / 4294967296 % 65536, n / 281474976710656] = ofD n from rfl, ← trim_len] at this
      have h := MagR.trim this HD.out
      rw [HV.out] at h
      exact h
    have HB := Lib.hid hb
    clear N1 hb
    generalize (Big.trim (ofD n)).length = k at *
    go_wp2
    refine bodyPost_ret (v := .agg #[.bool false, .slice (some ⟨w.heap.size + 1, 0, none⟩) k 4]) (by simp [results, Try.results40, go_sem]) rfl ⟨⟨_, rfl, HB.out _⟩, ?_⟩
    exact BW.out _ _
end Go.Proofs.Ytokinadmeooaoaa
