/- A part of the proof: DkNn, Bld, Open, OpenD, one behind another. -/
import Derived.Test.YtefpjdgfcgjbaaaMOA
import Derived.Test.YtefpjdgfcgjbaaaMOB
import Derived.Test.YtefpjdgfcgjbaaaMOC
import Derived.Test.YtefpjdgfcgjbaaaMOD
import Derived.Test.YtefpjdgfcgjbaaaMOE
import Derived.WalkKit
import Derived.ProofKit
import Derived.OpenShut
import Derived.ShutString
import Derived.ChangeOld
import Derived.Below
import Derived.Deep.Slices
import Derived.Deep.Fields
import Derived.ChangeSame
/- The walk of DiskNone. -/
namespace Go.Proofs.Ytefpjdgfcgjbaaa
set_option linter.unusedVariables false
set_option linter.unusedSimpArgs false
open Go.RowKit
/-- One act in a new block. -/
theorem sl_act (w : World) (c : Ac) (h : AcOk w [] c) : SlR acK (w.alloc (.cells (acC c).toArray 54)) [] [c] (some ⟨w.heap.size, 0, none⟩) 1 1 := by
  have BN := Mem.Blk.new w 54 (acC c).toArray
  have hmx : maxLen = 9223372036854775807 := by decide
  have hal := (Below.refl w.heap.size w).alloc (Nat.le_refl _) (.cells (acC c).toArray 54)
  refine ⟨[acC c], rfl, fun i z cs hx hc => ?_, rfl, Nat.le_refl _, by omega, fun _ => ⟨w.heap.size, 0, rfl, BN.lt, fun hm => (by cases hm), fun i cs hc => ?_⟩⟩
  · cases i with
    | zero => injection hx with hx; injection hc with hc; subst hx; subst hc; exact ⟨rfl, ⟨h.name, h.to_, h.data, h.kind, h.n, h.bits, h.keep.kept (Kept.of_below hal [])⟩⟩
    | succ i => cases hx
  · cases i with
    | zero =>
      injection hc with hc; subst hc
      refine ⟨rfl, fun j u hu => ?_⟩
      have := BN.cell j
      rw [Nat.zero_mul, Nat.add_zero, Nat.zero_add, this]
      rw [← hu]
      simp
    | succ i => cases hc
theorem greatA_one (c : Ac) : greatA [c] = bigA c := by unfold greatA; simp
set_option maxRecDepth 100000 in
set_option maxHeartbeats 4000000 in
theorem diskNone_any (c : Ac) (w : World) (hc : AcOk w [] c) : Calls Try.prog 8 #[.agg (acC c).toArray] w fun x w' => x = .returned (.bool true) ∧ Below w.heap.size w w' := by
  have hal := (Below.refl w.heap.size w).alloc (Nat.le_refl _) (.cells (acC c).toArray 54)
  have HB0 := Lib.hid hal
  have BC := Lib.hid (Mem.Blk.new w 54 (acC c).toArray)
  have HC : Hid (AcOk (w.alloc (.cells (acC c).toArray 54)) [] c) := ⟨hc.name, hc.to_, hc.data, hc.kind, hc.n, hc.bits, hc.keep.kept (Kept.of_below hal [])⟩
  clear hal
  show Calls Try.prog 8 #[.agg #[.int .i64 c.kind, .string c.name, .string c.to_, .string c.data, .int .i64 c.n, .int .u32 c.bits, .slice c.ka c.kl c.kc]] w _
  go_enter Try.func8, Try.ntmps8
  go_upto_region 1 with (fail)
  have BC' : Hid (Mem.Blk (w.alloc (.cells #[.int .i64 c.kind, .string c.name, .string c.to_, .string c.data, .int .i64 c.n, .int .u32 c.bits, .slice c.ka c.kl c.kc] 54)) w.heap.size 54 (acC c).toArray) := BC.out
  have HB' : Hid (Below w.heap.size w (w.alloc (.cells #[.int .i64 c.kind, .string c.name, .string c.to_, .string c.data, .int .i64 c.n, .int .u32 c.bits, .slice c.ka c.kl c.kc] 54))) := HB0.out
  have HC' : Hid (AcOk (w.alloc (.cells #[.int .i64 c.kind, .string c.name, .string c.to_, .string c.data, .int .i64 c.n, .int .u32 c.bits, .slice c.ka c.kl c.kc] 54)) [] c) := HC.out
  clear BC HB0 HC
  generalize w.alloc (.cells #[.int .i64 c.kind, .string c.name, .string c.to_, .string c.data, .int .i64 c.n, .int .u32 c.bits, .slice c.ka c.kl c.kc] 54) = w1 at *
  obtain ⟨q0, q1, q2, q3, q4, q5, q6⟩ := blk7 BC'.out
  have HSL : Hid (SlR acK (w1.alloc (.cells #[.int .i64 c.kind, .string c.name, .string c.to_, .string c.data, .int .i64 c.n, .int .u32 c.bits, .slice c.ka c.kl c.kc] 54)) [] [c] (some ⟨w1.heap.size, 0, none⟩) 1 1) := sl_act w1 c HC'.out
  have hal := (Below.refl w1.heap.size w1).alloc (Nat.le_refl _) (.cells #[.int .i64 c.kind, .string c.name, .string c.to_, .string c.data, .int .i64 c.n, .int .u32 c.bits, .slice c.ka c.kl c.kc] 54)
  have HB2 := Lib.hid (HB'.out.trans (hal.mono HB'.out.size))
  have BC2 := Lib.hid (BC'.out.below hal)
  clear hal
  go_wp2_with fail
  go_at_call 22
  (with_reducible refine (great05_any [c] _ 1 1 _ HSL.out).mono ?_)
  rintro x w2 ⟨rfl, hw2⟩
  rw [hw2, greatA_one]
  clear hw2 HSL q0 q1 q2 q3 q4 q5 q6 BC' HB'
  generalize w1.alloc (.cells #[.int .i64 c.kind, .string c.name, .string c.to_, .string c.data, .int .i64 c.n, .int .u32 c.bits, .slice c.ka c.kl c.kc] 54) = w2 at *
  cases hbig : bigA c with
  | true =>
    go_wp2_with fail
    go_at_call 9
    (with_reducible refine (awake05_any _).mono ?_)
    rintro x w9 ⟨rfl, b9⟩
    have HB9 := Lib.hid (HB2.out.trans (b9.mono HB2.out.size))
    clear b9
    go_wp2_with fail
    go_ret
    exact ⟨rfl, HB9.out⟩
  | false =>
    clear hbig
    obtain ⟨q0, q1, q2, q3, q4, q5, q6⟩ := blk7 BC2.out
    have HDO : Hid (Calls Try.prog 23 #[.pointer none, .agg #[.int .i64 c.kind, .string c.name, .string c.to_, .string c.data, .int .i64 c.n, .int .u32 c.bits, .slice c.ka c.kl c.kc]] w2 _) := do_nil c w2
    go_wp2_with fail
    go_at_call 23
    (with_reducible refine HDO.out.mono ?_)
    rintro x w3 ⟨rfl, b3⟩
    have HB3 := Lib.hid (HB2.out.trans (b3.mono HB2.out.size))
    have BC3 := Lib.hid (BC2.out.below b3)
    clear b3 HB2 BC2 HDO q0 q1 q2 q3 q4 q5 q6
    obtain ⟨q0, q1, -, -, -, -, -⟩ := blk7 BC3.out
    by_cases hr : 0 ≤ c.kind ∧ c.kind ≤ 4
    · have e : noneE c.kind = 1 := if_pos hr
      rw [e]
      have h1 : (0 : Int) ≤ c.kind := hr.1
      have h2 : c.kind ≤ 4 := hr.2
      clear e hr
      go_wp2_with fail
      go_at_call 21
      (with_reducible refine (on_nil _).mono ?_)
      rintro x w4 ⟨rfl, b4⟩
      have HB4 := Lib.hid (HB3.out.trans (b4.mono HB3.out.size))
      have BC4 := Lib.hid (BC3.out.below b4)
      clear b4 HB3 BC3 q0 q1
      obtain ⟨q0, q1, -, -, -, -, -⟩ := blk7 BC4.out
      go_wp2_with fail
      go_at_call 16
      (with_reducible refine (used_nil _).mono ?_)
      rintro x w5 ⟨rfl, b5⟩
      have HB5 := Lib.hid (HB4.out.trans (b5.mono HB4.out.size))
      have BC5 := Lib.hid (BC4.out.below b5)
      clear b5 HB4 BC4 q0 q1
      obtain ⟨q0, q1, -, -, -, -, -⟩ := blk7 BC5.out
      go_wp2_with fail
      go_at_call 29
      (with_reducible refine (free_nil _).mono ?_)
      rintro x w6 ⟨rfl, b6⟩
      have HB6 := Lib.hid (HB5.out.trans (b6.mono HB5.out.size))
      have BC6 := Lib.hid (BC5.out.below b6)
      clear b6 HB5 BC5 q0 q1
      obtain ⟨q0, q1, -, -, -, -, -⟩ := blk7 BC6.out
      go_wp2_with fail
      go_at_call 30
      (with_reducible refine (written_nil _).mono ?_)
      rintro x w7 ⟨rfl, b7⟩
      have HB7 := Lib.hid (HB6.out.trans (b7.mono HB6.out.size))
      have BC7 := Lib.hid (BC6.out.below b7)
      clear b7 HB6 BC6 q0 q1
      obtain ⟨q0, q1, -, -, -, -, -⟩ := blk7 BC7.out
      go_wp2_with fail
      go_at_call 31
      (with_reducible refine (calls_nil _).mono ?_)
      rintro x w8 ⟨rfl, b8⟩
      have HB8 := Lib.hid (HB7.out.trans (b8.mono HB7.out.size))
      have BC8 := Lib.hid (BC7.out.below b8)
      clear b8 HB7 BC7 q0 q1
      obtain ⟨q0, q1, -, -, -, -, -⟩ := blk7 BC8.out
      go_wp2_with fail
      go_at_call 32
      (with_reducible refine (safe_nil _ _).mono ?_)
      rintro x w9 ⟨rfl, b9⟩
      have HB9 := Lib.hid (HB8.out.trans (b9.mono HB8.out.size))
      have BC9 := Lib.hid (BC8.out.below b9)
      clear b9 HB8 BC8 q0 q1
      obtain ⟨q0, q1, -, -, -, -, -⟩ := blk7 BC9.out
      go_wp2_with fail
      go_at_call 15
      (with_reducible refine (names_nil _).mono ?_)
      rintro x w10 ⟨rfl, b10⟩
      have HB10 := Lib.hid (HB9.out.trans (b10.mono HB9.out.size))
      have BC10 := Lib.hid (BC9.out.below b10)
      clear b10 HB9 BC9 q0 q1
      obtain ⟨q0, q1, -, -, -, -, -⟩ := blk7 BC10.out
      go_wp2_with fail
      go_at_call 9
      (with_reducible refine (awake05_any _).mono ?_)
      rintro x w11 ⟨rfl, b11⟩
      have HB11 := Lib.hid (HB10.out.trans (b11.mono HB10.out.size))
      clear b11 HB10 q0 q1 BC10
      go_wp2_with fail
      go_ret
      exact ⟨rfl, HB11.out⟩
    · have e : noneE c.kind = 0 := if_neg hr
      rw [e]
      by_cases h1 : 0 ≤ c.kind
      · have h2 : decide (c.kind ≤ 4) = false := decide_eq_false (fun h => hr ⟨h1, h⟩)
        clear e hr
        go_wp2_with fail
        go_at_call 21
        (with_reducible refine (on_nil _).mono ?_)
        rintro x w4 ⟨rfl, b4⟩
        have HB4 := Lib.hid (HB3.out.trans (b4.mono HB3.out.size))
        have BC4 := Lib.hid (BC3.out.below b4)
        clear b4 HB3 BC3 q0 q1
        obtain ⟨q0, q1, -, -, -, -, -⟩ := blk7 BC4.out
        go_wp2_with fail
        go_at_call 16
        (with_reducible refine (used_nil _).mono ?_)
        rintro x w5 ⟨rfl, b5⟩
        have HB5 := Lib.hid (HB4.out.trans (b5.mono HB4.out.size))
        have BC5 := Lib.hid (BC4.out.below b5)
        clear b5 HB4 BC4 q0 q1
        obtain ⟨q0, q1, -, -, -, -, -⟩ := blk7 BC5.out
        go_wp2_with fail
        go_at_call 29
        (with_reducible refine (free_nil _).mono ?_)
        rintro x w6 ⟨rfl, b6⟩
        have HB6 := Lib.hid (HB5.out.trans (b6.mono HB5.out.size))
        have BC6 := Lib.hid (BC5.out.below b6)
        clear b6 HB5 BC5 q0 q1
        obtain ⟨q0, q1, -, -, -, -, -⟩ := blk7 BC6.out
        go_wp2_with fail
        go_at_call 30
        (with_reducible refine (written_nil _).mono ?_)
        rintro x w7 ⟨rfl, b7⟩
        have HB7 := Lib.hid (HB6.out.trans (b7.mono HB6.out.size))
        have BC7 := Lib.hid (BC6.out.below b7)
        clear b7 HB6 BC6 q0 q1
        obtain ⟨q0, q1, -, -, -, -, -⟩ := blk7 BC7.out
        go_wp2_with fail
        go_at_call 31
        (with_reducible refine (calls_nil _).mono ?_)
        rintro x w8 ⟨rfl, b8⟩
        have HB8 := Lib.hid (HB7.out.trans (b8.mono HB7.out.size))
        have BC8 := Lib.hid (BC7.out.below b8)
        clear b8 HB7 BC7 q0 q1
        obtain ⟨q0, q1, -, -, -, -, -⟩ := blk7 BC8.out
        go_wp2_with fail
        go_at_call 32
        (with_reducible refine (safe_nil _ _).mono ?_)
        rintro x w9 ⟨rfl, b9⟩
        have HB9 := Lib.hid (HB8.out.trans (b9.mono HB8.out.size))
        have BC9 := Lib.hid (BC8.out.below b9)
        clear b9 HB8 BC8 q0 q1
        obtain ⟨q0, q1, -, -, -, -, -⟩ := blk7 BC9.out
        go_wp2_with fail
        go_at_call 15
        (with_reducible refine (names_nil _).mono ?_)
        rintro x w10 ⟨rfl, b10⟩
        have HB10 := Lib.hid (HB9.out.trans (b10.mono HB9.out.size))
        have BC10 := Lib.hid (BC9.out.below b10)
        clear b10 HB9 BC9 q0 q1
        obtain ⟨q0, q1, -, -, -, -, -⟩ := blk7 BC10.out
        go_wp2_with fail
        go_at_call 9
        (with_reducible refine (awake05_any _).mono ?_)
        rintro x w11 ⟨rfl, b11⟩
        have HB11 := Lib.hid (HB10.out.trans (b11.mono HB10.out.size))
        clear b11 HB10 q0 q1 BC10
        go_wp2_with fail
        go_ret
        exact ⟨rfl, HB11.out⟩
      · clear e hr
        go_wp2_with fail
        go_at_call 21
        (with_reducible refine (on_nil _).mono ?_)
        rintro x w4 ⟨rfl, b4⟩
        have HB4 := Lib.hid (HB3.out.trans (b4.mono HB3.out.size))
        have BC4 := Lib.hid (BC3.out.below b4)
        clear b4 HB3 BC3 q0 q1
        obtain ⟨q0, q1, -, -, -, -, -⟩ := blk7 BC4.out
        go_wp2_with fail
        go_at_call 16
        (with_reducible refine (used_nil _).mono ?_)
        rintro x w5 ⟨rfl, b5⟩
        have HB5 := Lib.hid (HB4.out.trans (b5.mono HB4.out.size))
        have BC5 := Lib.hid (BC4.out.below b5)
        clear b5 HB4 BC4 q0 q1
        obtain ⟨q0, q1, -, -, -, -, -⟩ := blk7 BC5.out
        go_wp2_with fail
        go_at_call 29
        (with_reducible refine (free_nil _).mono ?_)
        rintro x w6 ⟨rfl, b6⟩
        have HB6 := Lib.hid (HB5.out.trans (b6.mono HB5.out.size))
        have BC6 := Lib.hid (BC5.out.below b6)
        clear b6 HB5 BC5 q0 q1
        obtain ⟨q0, q1, -, -, -, -, -⟩ := blk7 BC6.out
        go_wp2_with fail
        go_at_call 30
        (with_reducible refine (written_nil _).mono ?_)
        rintro x w7 ⟨rfl, b7⟩
        have HB7 := Lib.hid (HB6.out.trans (b7.mono HB6.out.size))
        have BC7 := Lib.hid (BC6.out.below b7)
        clear b7 HB6 BC6 q0 q1
        obtain ⟨q0, q1, -, -, -, -, -⟩ := blk7 BC7.out
        go_wp2_with fail
        go_at_call 31
        (with_reducible refine (calls_nil _).mono ?_)
        rintro x w8 ⟨rfl, b8⟩
        have HB8 := Lib.hid (HB7.out.trans (b8.mono HB7.out.size))
        have BC8 := Lib.hid (BC7.out.below b8)
        clear b8 HB7 BC7 q0 q1
        obtain ⟨q0, q1, -, -, -, -, -⟩ := blk7 BC8.out
        go_wp2_with fail
        go_at_call 32
        (with_reducible refine (safe_nil _ _).mono ?_)
        rintro x w9 ⟨rfl, b9⟩
        have HB9 := Lib.hid (HB8.out.trans (b9.mono HB8.out.size))
        have BC9 := Lib.hid (BC8.out.below b9)
        clear b9 HB8 BC8 q0 q1
        obtain ⟨q0, q1, -, -, -, -, -⟩ := blk7 BC9.out
        go_wp2_with fail
        go_at_call 15
        (with_reducible refine (names_nil _).mono ?_)
        rintro x w10 ⟨rfl, b10⟩
        have HB10 := Lib.hid (HB9.out.trans (b10.mono HB9.out.size))
        have BC10 := Lib.hid (BC9.out.below b10)
        clear b10 HB9 BC9 q0 q1
        obtain ⟨q0, q1, -, -, -, -, -⟩ := blk7 BC10.out
        go_wp2_with fail
        go_at_call 9
        (with_reducible refine (awake05_any _).mono ?_)
        rintro x w11 ⟨rfl, b11⟩
        have HB11 := Lib.hid (HB10.out.trans (b11.mono HB10.out.size))
        clear b11 HB10 q0 q1 BC10
        go_wp2_with fail
        go_ret
        exact ⟨rfl, HB11.out⟩
end Go.Proofs.Ytefpjdgfcgjbaaa

/- Build: its nodes and numbers; plain. -/
namespace Go.Proofs.Ytefpjdgfcgjbaaa
set_option linter.unusedVariables false
set_option linter.unusedSimpArgs false
open Go.RowKit
theorem cell_lt {w : World} {a : Addr} {v : Value} (h : w.cell? a = some v) : a.block < w.heap.size := by
  rcases Nat.lt_or_ge a.block w.heap.size with h1 | h1
  · exact h1
  · have : w.heap[a.block]? = none := Array.getElem?_eq_none h1
    simp [World.cell?, this] at h
/-- What was there is there behind what only makes memory. -/
theorem cell_up {w w' : World} {p : Addr} {v : Value} (h : w.cell? p = some v) (hb : Below w.heap.size w w') : w'.cell? p = some v := (hb.cell (cell_lt h)).trans h
theorem below_new (w : World) (o : Obj) : Below w.heap.size w (w.alloc o).drew := ((Below.refl w.heap.size w).alloc (Nat.le_refl _) o).drew
def ndI (n : Nat) : Int := if n < 1000 then (n : Int) else 1000
def rkI (n r : Nat) : Int := if n < 1000 then (r : Int) else 1000
theorem ndI_bd (n : Nat) : 0 ≤ ndI n ∧ ndI n ≤ 1000 := by unfold ndI; split <;> omega
theorem rkI_bd (n r : Nat) (h : r < 1000) : 0 ≤ rkI n r ∧ rkI n r ≤ 1000 := by unfold rkI; split <;> omega
/-- Of S nodes, M deep, with k within: what N and D are so far. -/
structure Cnt (k S M : Nat) (N D : Int) : Prop where
  n1 : 1 ≤ N
  n2 : N ≤ 1 + 1000 * (k : Int)
  d1 : 1 ≤ D
  d2 : D ≤ 1001
  yes : S < 1000 → N = (S : Int) ∧ D = (M : Int)
  no : 1000 ≤ S → 1000 ≤ N ∨ 1000 ≤ D
theorem Cnt.one : Cnt 0 1 1 1 1 := ⟨by omega, by omega, by omega, by omega, fun _ => ⟨rfl, rfl⟩, fun h => by omega⟩
theorem Cnt.step {k S M : Nat} {N D : Int} (h : Cnt k S M N D) {n r : Nat} (hn : 1 ≤ n) (hr : r < 1000) : Cnt (k + 1) (S + n) (max M (r + 1)) (N + ndI n) (max D (rkI n r + 1)) := by
  obtain ⟨h1, h2, h3, h4, h5, h6⟩ := h
  have b1 := ndI_bd n
  have b2 := rkI_bd n r hr
  refine ⟨by omega, by omega, by omega, by omega, fun hS => ?_, fun hS => ?_⟩
  · obtain ⟨e1, e2⟩ := h5 (by omega)
    have hn' : n < 1000 := by omega
    unfold ndI rkI
    rw [if_pos hn', if_pos hn']
    constructor <;> omega
  · by_cases hS' : 1000 ≤ S
    · rcases h6 hS' with h7 | h7
      · exact .inl (by omega)
      · exact .inr (by omega)
    · obtain ⟨e1, e2⟩ := h5 (by omega)
      by_cases hn' : n < 1000
      · left; unfold ndI; rw [if_pos hn']; omega
      · left; unfold ndI; rw [if_neg hn']; omega
theorem Cnt.great {k S M : Nat} {N D : Int} (h : Cnt k S M N D) (hM : M < 1000) (hg : 1000 ≤ N ∨ 1000 ≤ D) : ndI S = 1000 ∧ rkI S M = 1000 := by
  have : ¬ S < 1000 := fun hS => by obtain ⟨e1, e2⟩ := h.yes hS; omega
  unfold ndI rkI
  rw [if_neg this, if_neg this]
  exact ⟨rfl, rfl⟩
theorem Cnt.small {k S M : Nat} {N D : Int} (h : Cnt k S M N D) (h1 : N < 1000) (h2 : D < 1000) : ndI S = N ∧ rkI S M = D := by
  have hS : S < 1000 := by
    rcases Nat.lt_or_ge S 1000 with h3 | h3
    · exact h3
    · rcases h.no h3 with h4 | h4 <;> omega
  obtain ⟨e1, e2⟩ := h.yes hS
  unfold ndI rkI
  rw [if_pos hS, if_pos hS]
  exact ⟨e1.symm, e2.symm⟩
theorem Ex.nd_snoc (l : List Ex) (x : Ex) : Ex.nd.go (l ++ [x]) = Ex.nd.go l + x.nd := by
  induction l with
  | nil => simp [Ex.nd.go]
  | cons y t ih => simp only [List.cons_append, Ex.nd.go, ih]; omega
theorem Ex.rk_snoc (l : List Ex) (x : Ex) : Ex.rk.go (l ++ [x]) = max (Ex.rk.go l) x.rk := by
  induction l with
  | nil => simp [Ex.rk.go]
  | cons y t ih => simp only [List.cons_append, Ex.rk.go, ih]; omega
theorem Te.nd_snoc (l : List Te) (x : Te) : Te.nd.go (l ++ [x]) = Te.nd.go l + x.nd := by
  induction l with
  | nil => simp [Te.nd.go]
  | cons y t ih => simp only [List.cons_append, Te.nd.go, ih]; omega
theorem Te.rk_snoc (l : List Te) (x : Te) : Te.rk.go (l ++ [x]) = max (Te.rk.go l) x.rk := by
  induction l with
  | nil => simp [Te.rk.go]
  | cons y t ih => simp only [List.cons_append, Te.rk.go, ih]; omega
theorem Ex.rk_go_le {l : List Ex} {b : Nat} (h : ∀ e ∈ l, e.rk ≤ b) : Ex.rk.go l ≤ b := by
  induction l with
  | nil => simp [Ex.rk.go]
  | cons y t ih =>
    simp only [Ex.rk.go]
    have h1 := h y (by simp)
    have h2 := ih (fun e he => h e (by simp [he]))
    omega
theorem Te.rk_go_le {l : List Te} {b : Nat} (h : ∀ e ∈ l, e.rk ≤ b) : Te.rk.go l ≤ b := by
  induction l with
  | nil => simp [Te.rk.go]
  | cons y t ih =>
    simp only [Te.rk.go]
    have h1 := h y (by simp)
    have h2 := ih (fun e he => h e (by simp [he]))
    omega
theorem Ex.nd_pos' (e : Ex) : 1 ≤ e.nd := by cases e; simp only [Ex.nd]; omega
theorem Te.nd_pos' (e : Te) : 1 ≤ e.nd := by cases e; simp only [Te.nd]; omega
theorem max_if (a b : Int) : (if a < b then b else a) = max a b := by split <;> omega
theorem Cnt.push {args : List Ex} {x : Ex} {N D : Int} (h : Cnt args.length (1 + Ex.nd.go args) (1 + Ex.rk.go args) N D) (hr : x.rk < 1000) :
    Cnt (args ++ [x]).length (1 + Ex.nd.go (args ++ [x])) (1 + Ex.rk.go (args ++ [x])) (N + ndI x.nd) (if D < rkI x.nd x.rk + 1 then rkI x.nd x.rk + 1 else D) := by
  have h1 := h.step x.nd_pos' hr
  rw [max_if, Ex.nd_snoc, Ex.rk_snoc, List.length_append]
  rw [show 1 + (Ex.nd.go args + x.nd) = 1 + Ex.nd.go args + x.nd by omega, show 1 + max (Ex.rk.go args) x.rk = max (1 + Ex.rk.go args) (x.rk + 1) by omega]
  exact h1
/-- A term's: its expressions first, then its terms. -/
def Te.nds (xs : List Ex) (ts : List Te) : Nat := 1 + Ex.nd.go xs + Te.nd.go ts
def Te.rks (xs : List Ex) (ts : List Te) : Nat := 1 + max (Ex.rk.go xs) (Te.rk.go ts)
theorem Cnt.pushX {xs : List Ex} {x : Ex} {k : Nat} {N D : Int} (h : Cnt k (Te.nds xs []) (Te.rks xs []) N D) (hr : x.rk < 1000) :
    Cnt (k + 1) (Te.nds (xs ++ [x]) []) (Te.rks (xs ++ [x]) []) (N + ndI x.nd) (if D < rkI x.nd x.rk + 1 then rkI x.nd x.rk + 1 else D) := by
  have h1 := h.step x.nd_pos' hr
  unfold Te.nds Te.rks at *
  rw [max_if, Ex.nd_snoc, Ex.rk_snoc]
  simp only [Te.nd.go, Te.rk.go] at *
  rw [show 1 + (Ex.nd.go xs + x.nd) + 0 = 1 + Ex.nd.go xs + 0 + x.nd by omega, show 1 + max (max (Ex.rk.go xs) x.rk) 0 = max (1 + max (Ex.rk.go xs) 0) (x.rk + 1) by omega]
  exact h1
theorem Cnt.pushT {xs : List Ex} {ts : List Te} {x : Te} {k : Nat} {N D : Int} (h : Cnt k (Te.nds xs ts) (Te.rks xs ts) N D) (hr : x.rk < 1000) :
    Cnt (k + 1) (Te.nds xs (ts ++ [x])) (Te.rks xs (ts ++ [x])) (N + ndI x.nd) (if D < rkI x.nd x.rk + 1 then rkI x.nd x.rk + 1 else D) := by
  have h1 := h.step x.nd_pos' hr
  unfold Te.nds Te.rks at *
  rw [max_if, Te.nd_snoc, Te.rk_snoc]
  rw [show 1 + Ex.nd.go xs + (Te.nd.go ts + x.nd) = 1 + Ex.nd.go xs + Te.nd.go ts + x.nd by omega, show 1 + max (Ex.rk.go xs) (max (Te.rk.go ts) x.rk) = max (1 + max (Ex.rk.go xs) (Te.rk.go ts)) (x.rk + 1) by omega]
  exact h1
/-- The nodes that come in. -/
structure Lf where
  op : Int
  n : Int
  nm : ByteArray
  kids : List Int
structure Kn where
  op : Int
  nm : ByteArray
  exprs : List Int
  terms : List Int
def lfK : Elt Lf where
  sz := 4
  pos := by decide
  R := fun w X x cs => ∃ a cap, cs = [.int .i64 x.op, .int .i64 x.n, .string x.nm, .slice a x.kids.length cap] ∧ I64 x.op ∧ I64 x.n ∧ x.nm.size ≤ 9223372036854775807 ∧ SlR i64K w X x.kids a x.kids.length cap
  kept := fun h k => by obtain ⟨a, cap, rfl, h1, h2, h3, h4⟩ := h; exact ⟨a, cap, rfl, h1, h2, h3, h4.kept k⟩
  less := fun h k => by obtain ⟨a, cap, rfl, h1, h2, h3, h4⟩ := h; exact ⟨a, cap, rfl, h1, h2, h3, h4.less k⟩
  one := fun h => by obtain ⟨a, cap, rfl, h1, h2, h3, h4⟩ := h; exact ⟨rfl, by simp [Value.oneCell']⟩
def knK : Elt Kn where
  sz := 4
  pos := by decide
  R := fun w X x cs => ∃ a cap a' cap', cs = [.int .i64 x.op, .string x.nm, .slice a x.exprs.length cap, .slice a' x.terms.length cap'] ∧ I64 x.op ∧ x.nm.size ≤ 9223372036854775807 ∧ SlR i64K w X x.exprs a x.exprs.length cap ∧ SlR i64K w X x.terms a' x.terms.length cap'
  kept := fun h k => by obtain ⟨a, cap, a', cap', rfl, h1, h2, h3, h4⟩ := h; exact ⟨a, cap, a', cap', rfl, h1, h2, h3.kept k, h4.kept k⟩
  less := fun h k => by obtain ⟨a, cap, a', cap', rfl, h1, h2, h3, h4⟩ := h; exact ⟨a, cap, a', cap', rfl, h1, h2, h3.less k, h4.less k⟩
  one := fun h => by obtain ⟨a, cap, a', cap', rfl, h1, h2, h3, h4⟩ := h; exact ⟨rfl, by simp [Value.oneCell']⟩
def nds (es : List Ex) : List Int := es.map fun e => ndI e.nd
def rks (es : List Ex) : List Int := es.map fun e => rkI e.nd e.rk
def ndsT (ts : List Te) : List Int := ts.map fun e => ndI e.nd
def rksT (ts : List Te) : List Int := ts.map fun e => rkI e.nd e.rk
/-- The j-th element of a slice that grows: its cells, clear of all that is written. -/
theorem Sep.elt {α : Type} {K : Elt α} {e : TypeId} {base : Nat} {w : World} {fam : List Ob} {l : List α} {v : Value} (h : Sep w fam) (i : Nat) (hi : fam[i]? = some (gr K e base l v)) (j : Nat) (hj : j < l.length) :
    ∃ g cap x cs, v = .slice (some ⟨g, 0, none⟩) l.length cap ∧ l.length ≤ cap ∧ l[j]? = some x ∧ K.R w (owns fam) x cs ∧ cs.length = K.sz ∧ ∀ m c, m < K.sz → cs[m]? = some c → w.cell? ⟨g, j * K.sz + m, none⟩ = some c := by
  obtain ⟨csl, hG⟩ := h.at i hi
  obtain ⟨g, cap, rfl, hg0, hg1, hg2, hob⟩ := own_form hG.own (by omega)
  have hx : l[j]? = some (l[j]'hj) := List.getElem?_eq_getElem hj
  have hc : csl[j]? = some (csl[j]'(by rw [hG.count]; exact hj)) := List.getElem?_eq_getElem (by rw [hG.count]; exact hj)
  have hR := hG.elts j _ _ hx hc
  refine ⟨g, cap, _, _, rfl, hg2, hx, K.less hR (fun b _ hm => ?_), (K.one hR).1, fun m c hm hcm => ?_⟩
  · obtain ⟨q, o, hq, hb⟩ := mem_owns.1 hm
    by_cases hqi : q = i
    · subst hqi
      rw [hi] at hq
      injection hq with hq
      subst hq
      have hb' : b ∈ (Value.slice (some ⟨g, 0, none⟩) l.length cap).ownBlock.toList := hb
      rw [Option.mem_toList] at hb'
      exact busy_mem.2 (.inl hb')
    · exact busy_mem.2 (.inr (mem_others.2 ⟨q, o, hqi, hq, hb⟩))
  · rw [hG.own.cellAt (j * K.sz + m) (by calc j * K.sz + m < j * K.sz + K.sz := by omega
                                              _ = (j + 1) * K.sz := by rw [Nat.add_mul]; omega
                                              _ ≤ l.length * K.sz := Nat.mul_le_mul_right _ (by omega)), flat_get K.sz csl hG.len4 j m _ hc hm]
    exact hcm
/-- What a slice that grows is, as a value. -/
theorem Sep.form {α : Type} {K : Elt α} {e : TypeId} {base : Nat} {w : World} {fam : List Ob} {l : List α} {v : Value} (h : Sep w fam) (i : Nat) (hi : fam[i]? = some (gr K e base l v)) : ∃ a cap, v = .slice a l.length cap := by
  obtain ⟨a, cap, hv, _⟩ := h.still i hi
  exact ⟨a, cap, hv⟩
end Go.Proofs.Ytefpjdgfcgjbaaa

/- What came in, opened: slices of ints, of strings, of structs of such. -/
namespace Go.Proofs.Ytefpjdgfcgjbaaa
set_option linter.unusedVariables false
set_option linter.unusedSimpArgs false
open Go.ChangeShapes Go.WideShapes Go.ChangeAt Go.RowKit Go.Deep
def Opens {α : Type} (P : Program) (e : TypeId) (K : Elt α) : Prop :=
  ∀ (H : Type) (enc : TypeId × Value → H) (W : World) (fuel : Nat) (cs : List Value) (x : DataW H × List MemPlace), DataW.trod enc P W 0 (fun _ => true) true fuel e cs = some x → ∃ d, K.R W [] d cs
theorem i64_of {n : Int} (h : (Lit.int .i64 n).wf = true) : I64 n := by
  simp [Lit.wf, IntKind.min, IntKind.max, IntKind.signed, IntKind.bits] at h
  unfold I64
  omega
theorem opens_int {P : Program} {t : TypeId} (ht : P.underlying t = some (.int .i64)) : Opens P t i64K := by
  intro H enc W fuel cs x h
  obtain ⟨n, rfl, _, hw⟩ := DataW.trod_int ht h
  exact ⟨n, rfl, i64_of hw⟩
theorem pick_all {α : Type} {Q : Nat → α → List Value → Prop} : ∀ (len : Nat), (∀ i, i < len → ∃ d c, Q i d c) → ∃ (l : List α) (vs : List (List Value)), l.length = len ∧ vs.length = len ∧ ∀ i d c, l[i]? = some d → vs[i]? = some c → Q i d c := by
  intro len
  induction len with
  | zero => intro _; exact ⟨[], [], rfl, rfl, fun i d c h _ => by simp at h⟩
  | succ n ih =>
    intro h
    obtain ⟨l, vs, h1, h2, h3⟩ := ih (fun i hi => h i (by omega))
    obtain ⟨d, c, hq⟩ := h n (by omega)
    refine ⟨l ++ [d], vs ++ [c], by simp [h1], by simp [h2], fun i d' c' hd hc => ?_⟩
    rcases Nat.lt_or_ge i n with hi | hi
    · rw [List.getElem?_append_left (by omega)] at hd hc
      exact h3 i d' c' hd hc
    · have hin : i = n := by
        have := (List.getElem?_eq_some_iff.1 hd).1; simp at this; omega
      subst hin
      rw [List.getElem?_append_right (by omega), h1, Nat.sub_self] at hd
      rw [List.getElem?_append_right (by omega), h2, Nat.sub_self] at hc
      injection hd with hd; injection hc with hc
      subst hd; subst hc
      exact hq
theorem opens_slice {α : Type} {K : Elt α} {P : Program} {t e : TypeId} (ht : P.underlying t = some (.slice e)) (hK : P.cellsOf e = K.sz) (he : Opens P e K) {H : Type} {enc : TypeId × Value → H} {W : World} {fuel : Nat} {cs : List Value} {x : DataW H × List MemPlace}
    (h : DataW.trod enc P W 0 (fun _ => true) true fuel t cs = some x) : ∃ a len cap l, cs = [.slice a len cap] ∧ SlR K W [] l a len cap := by
  rcases open_slice ht h with ⟨rfl, _⟩ | ⟨a, len, cap, m, n, D, Pl, rfl, _, hl, hm, hmm, _, hi⟩
  · exact ⟨none, 0, 0, [], rfl, SlR.nil K W []⟩
  · have hmx : cap ≤ 9223372036854775807 := by
      have : maxLen = 9223372036854775807 := by decide
      omega
    rw [if_pos rfl] at hmm
    obtain ⟨l, vs, h1, h2, h3⟩ := pick_all (Q := fun i d c => K.R W [] d c ∧ c.length = K.sz ∧ ∀ j u, c[j]? = some u → W.cell? (a.add (i * K.sz + j)) = some u) len (fun i hi' => by
      obtain ⟨c, hc, ht'⟩ := hi i (by omega)
      obtain ⟨d, hd⟩ := he H enc W n c _ ht'
      obtain ⟨_, hcl, hat⟩ := World.cells?_some hc
      rw [hK] at hcl hat
      refine ⟨d, c, hd, hcl, fun j u hj => ?_⟩
      have hjs : j < K.sz := by rw [← hcl]; exact (List.getElem?_eq_some_iff.1 hj).1
      rw [← Go.Deep.add_add, hat j hjs]
      exact hj)
    refine ⟨some a, len, cap, l, rfl, vs, by rw [h1, h2], fun i d c hd hc => (h3 i d c hd hc).1, h2, hl, hmx, fun hp => ?_⟩
    have hv0 : vs[0]? = some (vs[0]'(by omega)) := List.getElem?_eq_getElem (by omega)
    have hl0 : l[0]? = some (l[0]'(by omega)) := List.getElem?_eq_getElem (by omega)
    obtain ⟨_, hlen0, hcell0⟩ := h3 0 _ _ hl0 hv0
    have hK0 := K.pos
    have hz := hcell0 0 _ (List.getElem?_eq_getElem (by omega))
    obtain ⟨b, off, spot⟩ := a
    obtain rfl : spot = none := by simpa [Addr.add] using World.cell?_spot hz
    have hblt := cell_lt hz
    rw [show (⟨b, off, none⟩ : Addr).add (0 * K.sz + 0) = ⟨b, off + (0 * K.sz + 0), none⟩ from Mem.add_off _ _ _] at hblt
    refine ⟨b, off, rfl, hblt, List.not_mem_nil, fun i c hc => ?_⟩
    have hlt : i < l.length := by rw [h1, ← h2]; exact (List.getElem?_eq_some_iff.1 hc).1
    obtain ⟨_, g2, g3⟩ := h3 i _ c (List.getElem?_eq_getElem hlt) hc
    refine ⟨g2, fun j u hj => ?_⟩
    have := g3 j u hj
    rw [Mem.add_off, ← Nat.add_assoc] at this
    exact this
/-- A struct of one-cell fields: each field's cell. -/
theorem opens_struct {P : Program} {e : TypeId} {fs : Array Field} (he : P.underlying e = some (.struct fs)) (hone : oneCellFields P fs = true) (hC : P.cellsOf e = fs.size) {H : Type} {enc : TypeId × Value → H} {W : World} {fuel : Nat} {cs : List Value} {x : DataW H × List MemPlace}
    (h : DataW.trod enc P W 0 (fun _ => true) true fuel e cs = some x) : cs.length = fs.size ∧ ∀ (j : Nat) (f : Field), fs[j]? = some f → ∃ v n y, cs[j]? = some v ∧ DataW.trod enc P W 0 (fun _ => true) true n f.type [v] = some y := by
  obtain ⟨ys, n', hn', hy, hlen, hyl, hf⟩ := DataW.trod_struct he h
  refine ⟨by rw [hlen, hC], fun j f hj => ?_⟩
  obtain ⟨ho, hk⟩ := hone_of hone j f hj
  have hjl : j < fs.size := (Array.getElem?_eq_some_iff.1 hj).1
  have hv : cs[j]? = some (cs[j]'(by omega)) := List.getElem?_eq_getElem (by omega)
  have h1 := hf j f hj
  rw [ho, hk] at h1
  have hone' : (cs.drop j).take 1 = [cs[j]'(by omega)] := by
    rw [List.drop_eq_getElem_cons (by omega)]
    rfl
  rw [hone'] at h1
  have hys : ys[j]? = some (ys[j]'(by omega)) := List.getElem?_eq_getElem (by omega)
  exact ⟨_, _, _, hv, h1.trans hys⟩
theorem four_list {α : Type} {cs : List α} (h : cs.length = 4) {a b c d : α} (h0 : cs[0]? = some a) (h1 : cs[1]? = some b) (h2 : cs[2]? = some c) (h3 : cs[3]? = some d) : cs = [a, b, c, d] := by
  match cs, h with
  | [p, q, r, s], _ => simp at h0 h1 h2 h3; subst h0; subst h1; subst h2; subst h3; rfl
end Go.Proofs.Ytefpjdgfcgjbaaa

/- What came in, opened: what is kept of a file. -/
namespace Go.Proofs.Ytefpjdgfcgjbaaa
set_option linter.unusedVariables false
set_option linter.unusedSimpArgs false
open Go.ChangeShapes Go.WideShapes Go.ChangeAt Go.RowKit Go.Deep
theorem two_list {α : Type} {cs : List α} (h : cs.length = 2) {a b : α} (h0 : cs[0]? = some a) (h1 : cs[1]? = some b) : cs = [a, b] := by
  match cs, h with
  | [p, q], _ => simp at h0 h1; subst h0; subst h1; rfl
theorem opens_keep : Opens Try.prog 23 kpK := by
  intro H enc W fuel cs x h
  obtain ⟨hl, hf⟩ := opens_struct Try.underlying23 (by kernel_rfl) (by kernel_rfl) h
  obtain ⟨v0, n0, y0, c0, t0⟩ := hf 0 _ rfl
  obtain ⟨v1, n1, y1, c1, t1⟩ := hf 1 _ rfl
  obtain ⟨a, e0, _, w0⟩ := DataW.trod_int (k := .i64) Try.underlying3 t0
  obtain ⟨b, e1, _, w1⟩ := DataW.trod_int (k := .i64) Try.underlying3 t1
  injection e0 with e0; injection e1 with e1
  subst e0; subst e1
  exact ⟨(a, b), two_list hl c0 c1, i64_of w0, i64_of w1⟩
set_option maxRecDepth 100000 in
theorem keep_of {H : Type} {enc : TypeId × Value → H} {W : World} {base : Nat} {v : Value} {x : DataW H × List MemPlace} (hv : Value.okWide Try.prog W .any base 23 v) (k : ∃ fuel, DataW.trod enc Try.prog W 0 (fun _ => true) true fuel 23 (Value.cells v).toList = some x) :
    ∃ b c : Int, v = .agg #[.int .i64 b, .int .i64 c] ∧ I64 b ∧ I64 c := by
  obtain ⟨cs, rfl, -⟩ := okWide_struct Try.underlying23 hv
  obtain ⟨fuel, h⟩ := k
  obtain ⟨f, hf, h1, h2⟩ := opens_keep H enc W fuel _ x h
  refine ⟨f.1, f.2, ?_, h1, h2⟩
  have hcs : cs.toList = [.int .i64 f.1, .int .i64 f.2] := hf
  rw [show cs = #[.int .i64 f.1, .int .i64 f.2] by rw [← Array.toArray_toList (xs := cs), hcs]]
theorem seven_list {α : Type} {cs : List α} (h : cs.length = 7) {a b c d e f g : α} (h0 : cs[0]? = some a) (h1 : cs[1]? = some b) (h2 : cs[2]? = some c) (h3 : cs[3]? = some d) (h4 : cs[4]? = some e) (h5 : cs[5]? = some f) (h6 : cs[6]? = some g) : cs = [a, b, c, d, e, f, g] := by
  match cs, h with
  | [p, q, r, s, t, u, v], _ => simp at h0 h1 h2 h3 h4 h5 h6; subst h0; subst h1; subst h2; subst h3; subst h4; subst h5; subst h6; rfl
theorem u32_of {n : Int} (h : (Lit.int .u32 n).wf = true) : 0 ≤ n ∧ n ≤ 4294967295 := by
  simp [Lit.wf, IntKind.min, IntKind.max, IntKind.signed, IntKind.bits] at h
  omega
theorem opens_act : Opens Try.prog 54 acK := by
  intro H enc W fuel cs x h
  obtain ⟨hl, hf⟩ := opens_struct Try.underlying54 (by kernel_rfl) (by kernel_rfl) h
  obtain ⟨v0, n0, y0, c0, t0⟩ := hf 0 _ rfl
  obtain ⟨v1, n1, y1, c1, t1⟩ := hf 1 _ rfl
  obtain ⟨v2, n2, y2, c2, t2⟩ := hf 2 _ rfl
  obtain ⟨v3, n3, y3, c3, t3⟩ := hf 3 _ rfl
  obtain ⟨v4, n4, y4, c4, t4⟩ := hf 4 _ rfl
  obtain ⟨v5, n5, y5, c5, t5⟩ := hf 5 _ rfl
  obtain ⟨v6, n6, y6, c6, t6⟩ := hf 6 _ rfl
  obtain ⟨a0, e0, _, w0⟩ := DataW.trod_int (k := .i64) Try.underlying3 t0
  obtain ⟨a1, e1, _, w1⟩ := DataW.trod_string Try.underlying9 t1
  obtain ⟨a2, e2, _, w2⟩ := DataW.trod_string Try.underlying9 t2
  obtain ⟨a3, e3, _, w3⟩ := DataW.trod_string Try.underlying9 t3
  obtain ⟨a4, e4, _, w4⟩ := DataW.trod_int (k := .i64) Try.underlying3 t4
  obtain ⟨a5, e5, _, w5⟩ := DataW.trod_int (k := .u32) Try.underlying52 t5
  obtain ⟨p, len, cap, l, e6, hS⟩ := opens_slice (K := kpK) Try.underlying31 (by kernel_rfl) opens_keep t6
  injection e0 with e0; injection e1 with e1; injection e2 with e2; injection e3 with e3; injection e4 with e4; injection e5 with e5; injection e6 with e6
  subst e0; subst e1; subst e2; subst e3; subst e4; subst e5; subst e6
  exact ⟨⟨a0, a1, a2, a3, a4, a5, l, p, len, cap⟩, seven_list hl c0 c1 c2 c3 c4 c5 c6, ⟨w1, w2, w3, i64_of w0, i64_of w4, u32_of w5, hS⟩⟩
set_option maxRecDepth 100000 in
theorem act_of {H : Type} {enc : TypeId × Value → H} {W : World} {base : Nat} {v : Value} {x : DataW H × List MemPlace} (hv : Value.okWide Try.prog W .any base 54 v) (k : ∃ fuel, DataW.trod enc Try.prog W 0 (fun _ => true) true fuel 54 (Value.cells v).toList = some x) :
    ∃ c : Ac, v = .agg (acC c).toArray ∧ AcOk W [] c := by
  obtain ⟨cs, rfl, -⟩ := okWide_struct Try.underlying54 hv
  obtain ⟨fuel, h⟩ := k
  obtain ⟨c, hf, h1⟩ := opens_act H enc W fuel _ x h
  refine ⟨c, ?_, h1⟩
  have hcs : cs.toList = acC c := hf
  rw [show cs = (acC c).toArray by rw [← Array.toArray_toList (xs := cs), hcs]]
theorem acts_of {H : Type} {enc : TypeId × Value → H} {W : World} {a : Option Addr} {len cap : Nat} {x : DataW H × List MemPlace} (k : ∃ fuel, DataW.trod enc Try.prog W 0 (fun _ => true) true fuel 44 (Value.cells (.slice a len cap)).toList = some x) : ∃ l, SlR acK W [] l a len cap := by
  obtain ⟨fuel, hf⟩ := k
  obtain ⟨a', len', cap', l, e, hS⟩ := opens_slice (K := acK) Try.underlying44 (by kernel_rfl) opens_act hf
  have e' : (Value.slice a len cap) = .slice a' len' cap' := by
    have := List.head_eq_of_cons_eq e
    exact this
  injection e' with h1 h2 h3
  subst h1; subst h2; subst h3
  exact ⟨l, hS⟩
end Go.Proofs.Ytefpjdgfcgjbaaa
