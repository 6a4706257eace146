/- The contract of num's Reduce over a positive number; conditions: both within 64 bits. -/
import Derived.Test.YtokinadmeooaoaaNa
import Derived.Deep.RegionHeld3
namespace Go.Proofs.Ytokinadmeooaoaa
open Go.RowKit
set_option maxRecDepth 100000 in
set_option maxHeartbeats 1000000 in
theorem reduce_any (a d : Int) (w : World) (a0 : -9223372036854775808 ≤ a) (a1 : a ≤ 9223372036854775807) (d0 : 0 < d) (d1 : d ≤ 9223372036854775807) :
    Calls Try.prog 38 #[.agg #[.int .i64 a, .int .i64 d]] w fun e w' => e = .returned (.tuple #[.agg #[.int .i64 (formP (decide (a < 0)) a.natAbs d.natAbs), .int .i64 (formQ (decide (a < 0)) a.natAbs d.natAbs)], .bool (formB (decide (a < 0)) a.natAbs d.natAbs)]) ∧ Below w.heap.size w w' := by
  have hd0 : (d == 0) = false := by simp; omega
  have hd1 : decide (d < 0) = false := by simp; omega
  have FA := Lib.hid (fun (W : World) => form_any (decide (a < 0)) a.natAbs d.natAbs W (by omega) (by omega) (by omega))
  have SA := Lib.hid (fun (W : World) => nsize_any a W a0 a1)
  have SD := Lib.hid (fun (W : World) => nsize_any d W (by omega) d1)
  clear a0 a1 d0 d1
  have B0 := (Mem.Blk.new w 29 #[.int .i64 a, .int .i64 d]).alloc (.cells #[.int .i64 0, .int .i64 0] 29)
  have B1 := Mem.Blk.new (w.alloc (.cells #[.int .i64 a, .int .i64 d] 29)) 29 #[.int .i64 0, .int .i64 0]
  rw [World.size_alloc] at B1
  have HB0 := Lib.hid B0
  have HB1 := Lib.hid B1
  clear B0 B1
  go_enter Try.func38, Try.ntmps38
  go_wp2_with fail
  go_region_held3 (fun w' => w'.cell? ⟨w.heap.size, 0, none⟩ = some (.int .i64 a) ∧ w'.cell? ⟨w.heap.size, 1, none⟩ = some (.int .i64 d)) (go_keep)
    (first | (go_at_call_of 51 (Value.int IntKind.i64 a); refine (SA.out _).mono ?_; rintro e w' ⟨rfl, rfl⟩) | (go_at_call_of 51 (Value.int IntKind.i64 d); refine (SD.out _).mono ?_; rintro e w' ⟨rfl, rfl⟩) | (go_at_call 50; refine (FA.out _).mono ?_; rintro e w2 ⟨rfl, b2⟩; obtain ⟨c0, c1, f0, f1⟩ := (HB0.out.drew.below b2).two; obtain ⟨c2, c3, f2, f3⟩ := (HB1.out.drew.below b2).two))
  go_wp2
  refine bodyPost_ret (v := .tuple #[.agg #[.int .i64 (formP (decide (a < 0)) a.natAbs d.natAbs), .int .i64 (formQ (decide (a < 0)) a.natAbs d.natAbs)], .bool (formB (decide (a < 0)) a.natAbs d.natAbs)]) (by simp [results, Try.results38, go_sem, c2, c3]) rfl ⟨rfl, ?_⟩
  exact ((((((Below.refl _ _).alloc (Nat.le_refl _) _).alloc (by simp) _).drew).trans (b2.mono (by simp; omega))).setCell (by simp) _).setCell (by simp) _
/-- A ratio over a positive number: its two numbers, and whether it is in range. -/
def ratP (a : Int) (d : Nat) : Int := formP (decide (a < 0)) a.natAbs d
def ratQ (a : Int) (d : Nat) : Int := formQ (decide (a < 0)) a.natAbs d
def ratB (a : Int) (d : Nat) : Bool := formB (decide (a < 0)) a.natAbs d
end Go.Proofs.Ytokinadmeooaoaa
