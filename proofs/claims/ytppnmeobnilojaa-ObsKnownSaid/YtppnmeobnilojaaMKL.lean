/- A part of the proof: Awk22, one behind another. -/
import Derived.Test.YtppnmeobnilojaaMKA
import Derived.Test.YtppnmeobnilojaaMKB
import Derived.Test.YtppnmeobnilojaaMKC
import Derived.Test.YtppnmeobnilojaaMKD
import Derived.Test.YtppnmeobnilojaaMKE
import Derived.Test.YtppnmeobnilojaaMKF
import Derived.Test.YtppnmeobnilojaaMKG
import Derived.Test.YtppnmeobnilojaaMKH
import Derived.Test.YtppnmeobnilojaaMKI
import Derived.Test.YtppnmeobnilojaaMKJ
import Derived.Test.YtppnmeobnilojaaMKK
/- The law's own example of chapter 22. -/
namespace Go.Proofs.Ytppnmeobnilojaa
set_option linter.unusedVariables false
set_option linter.unusedSimpArgs false
open Go.RowKit
def spx : ByteArray := ⟨#[83, 80, 88]⟩
def seeE : Ex := .mk 16 0 ⟨#[]⟩ [.mk 3 0 spx [], .mk 1 100 ⟨#[]⟩ []]
def dayE : Ex := .mk 15 0 ⟨#[]⟩ [.mk 4 0 ⟨#[]⟩ [], .mk 2 19723 ⟨#[]⟩ []]
def bothE : Ex := .mk 17 0 ⟨#[]⟩ [seeE, dayE]
theorem bothE_built : bE bothE = true := by kernel_rfl
theorem bothE_right : rE bothE = true := by
  have h : rE bothE = (decide (bothE.nd ≤ 200 ∧ bothE.rk ≤ 16) && bE bothE) := rfl
  rw [h, bothE_built]
  decide
theorem bothE_kind : kI bothE = 2 := by
  have h : kI bothE = if rE bothE then kE bothE else 0 := rfl
  have h2 : kE bothE = 2 := by kernel_rfl
  rw [h, bothE_right, h2]; rfl
theorem bothE_5 : evalX 5 [] bothE = .tru false := by
  unfold evalX
  rw [bothE_kind, if_neg (by decide)]
  simp [bothE, seeE, dayE, evalE_mk, evO, opV, bothV, seenV, seenF, twoV, cmpV, Vl.N]
theorem bothE_on : evalX 19723 [] bothE = .unk := by
  unfold evalX
  rw [bothE_kind, if_neg (by decide)]
  simp [bothE, seeE, dayE, evalE_mk, evO, opV, bothV, seenV, seenF, twoV, cmpV, Vl.N]
theorem lit_two {w : World} {x y : Ex} {c d : List Value} {cs : Array Value} {op n : Int} (hcs : cs.toList = c ++ d) (hx : RepE w [] x c) (hy : RepE w [] y d) (ho : I64 op) (hn : I64 n) :
    RepE ((w.alloc (.cells cs 46)).alloc (.cells #[.int .i64 op, .int .i64 n, .string ⟨#[]⟩, .slice (some ⟨w.heap.size, 0, none⟩) 2 2] 46)) [] (.mk op n ⟨#[]⟩ [x, y]) [.int .i64 op, .int .i64 n, .string ⟨#[]⟩, .slice (some ⟨w.heap.size, 0, none⟩) 2 2] ∧
    Mem.Blk ((w.alloc (.cells cs 46)).alloc (.cells #[.int .i64 op, .int .i64 n, .string ⟨#[]⟩, .slice (some ⟨w.heap.size, 0, none⟩) 2 2] 46)) (w.heap.size + 1) 46 #[.int .i64 op, .int .i64 n, .string ⟨#[]⟩, .slice (some ⟨w.heap.size, 0, none⟩) 2 2] ∧
    Below w.heap.size w ((w.alloc (.cells cs 46)).alloc (.cells #[.int .i64 op, .int .i64 n, .string ⟨#[]⟩, .slice (some ⟨w.heap.size, 0, none⟩) 2 2] 46)) := by
  have h1 := Mem.Blk.new w 46 cs
  have h2 := Mem.Blk.new (w.alloc (.cells cs 46)) 46 #[.int .i64 op, .int .i64 n, .string ⟨#[]⟩, .slice (some ⟨w.heap.size, 0, none⟩) 2 2]
  have e1 : (w.alloc (.cells cs 46)).heap.size = w.heap.size + 1 := by simp
  have hb := ((Below.refl w.heap.size w).alloc (Nat.le_refl _) (.cells cs 46)).alloc (by rw [e1]; omega) (.cells #[.int .i64 op, .int .i64 n, .string ⟨#[]⟩, .slice (some ⟨w.heap.size, 0, none⟩) 2 2] 46)
  rw [e1] at h2
  exact ⟨RepE.mk' ho hn (by decide) (SlR.lit2 (K := exK) (h1.alloc _) hcs (by simp) (hx.kept (Kept.of_below hb [])) (hy.kept (Kept.of_below hb []))).slE, h2, hb⟩
theorem leaf_rep {w : World} {X : List Nat} (op n : Int) (nm : ByteArray) (ho : I64 op) (hn : I64 n) (hs : nm.size ≤ 9223372036854775807) : RepE w X (.mk op n nm []) [.int .i64 op, .int .i64 n, .string nm, .slice none 0 0] := RepE.mk' ho hn hs (SlE.nil _ _)
set_option maxRecDepth 100000 in
set_option maxHeartbeats 2000000 in
theorem awake22_any (w : World) : Calls Try.prog 34 #[] w fun x w' => x = .returned (.bool true) ∧ Below w.heap.size w w' := by
  have L1 := Lib.hid (lit_two (w := w) (cs := #[.int .i64 3, .int .i64 0, .string spx, .slice none 0 0, .int .i64 1, .int .i64 100, .string ⟨#[]⟩, .slice none 0 0]) (op := 16) (n := 0) rfl (leaf_rep 3 0 spx (by unfold I64; omega) (by unfold I64; omega) (by decide)) (leaf_rep 1 100 ⟨#[]⟩ (by unfold I64; omega) (by unfold I64; omega) (by decide)) (by unfold I64; omega) (by unfold I64; omega))
  unfold spx at L1
  go_enter Try.func34, Try.ntmps34
  go_upto_region 2 with (fail)
  generalize (w.alloc (.cells #[.int .i64 3, .int .i64 0, .string ⟨#[83, 80, 88]⟩, .slice none 0 0, .int .i64 1, .int .i64 100, .string ⟨#[]⟩, .slice none 0 0] 46)).alloc (.cells #[.int .i64 16, .int .i64 0, .string ⟨#[]⟩, .slice (some ⟨w.heap.size, 0, none⟩) 2 2] 46) = v1 at *
  have L2 := Lib.hid (lit_two (w := v1) (cs := #[.int .i64 4, .int .i64 0, .string ⟨#[]⟩, .slice none 0 0, .int .i64 2, .int .i64 19723, .string ⟨#[]⟩, .slice none 0 0]) (op := 15) (n := 0) rfl (leaf_rep 4 0 ⟨#[]⟩ (by unfold I64; omega) (by unfold I64; omega) (by decide)) (leaf_rep 2 19723 ⟨#[]⟩ (by unfold I64; omega) (by unfold I64; omega) (by decide)) (by unfold I64; omega) (by unfold I64; omega))
  go_upto_region 3 with (fail)
  generalize (v1.alloc (.cells #[.int .i64 4, .int .i64 0, .string ⟨#[]⟩, .slice none 0 0, .int .i64 2, .int .i64 19723, .string ⟨#[]⟩, .slice none 0 0] 46)).alloc (.cells #[.int .i64 15, .int .i64 0, .string ⟨#[]⟩, .slice (some ⟨v1.heap.size, 0, none⟩) 2 2] 46) = v2 at *
  have L3 := Lib.hid (lit_two (w := v2) (cs := #[.int .i64 16, .int .i64 0, .string ⟨#[]⟩, .slice (some ⟨w.heap.size, 0, none⟩) 2 2, .int .i64 15, .int .i64 0, .string ⟨#[]⟩, .slice (some ⟨v1.heap.size, 0, none⟩) 2 2]) (op := 17) (n := 0) rfl (L1.out.1.kept (Kept.of_below L2.out.2.2 [])) L2.out.1 (by unfold I64; omega) (by unfold I64; omega))
  have HB := Lib.hid (L1.out.2.2.trans (L2.out.2.2.mono L1.out.2.2.size))
  have HB1 := Lib.hid (HB.out.trans (L3.out.2.2.mono HB.out.size))
  obtain ⟨a0, a1, a2, a3, -, -, -, -⟩ := blk4 (L1.out.2.1.below L2.out.2.2)
  obtain ⟨b0, b1, b2, b3, -, -, -, -⟩ := blk4 L2.out.2.1
  go_upto_region 4 with (fail)
  generalize (v2.alloc (.cells #[.int .i64 16, .int .i64 0, .string ⟨#[]⟩, .slice (some ⟨w.heap.size, 0, none⟩) 2 2, .int .i64 15, .int .i64 0, .string ⟨#[]⟩, .slice (some ⟨v1.heap.size, 0, none⟩) 2 2] 46)).alloc (.cells #[.int .i64 17, .int .i64 0, .string ⟨#[]⟩, .slice (some ⟨v2.heap.size, 0, none⟩) 2 2] 46) = v3 at *
  have RB : Hid (∀ W, Below v3.heap.size v3 W → RepE W [] bothE [.int .i64 17, .int .i64 0, .string ⟨#[]⟩, .slice (some ⟨v2.heap.size, 0, none⟩) 2 2]) := fun W hW => RepE.kept L3.out.1 (Kept.of_below hW [])
  have BB := Lib.hid L3.out.2.1
  clear L1 L2 L3 HB a0 a1 a2 a3 b0 b1 b2 b3
  generalize v2.heap.size = z at *
  obtain ⟨a0, a1, a2, a3, -, -, -, -⟩ := blk4 BB.out
  go_wp2_with fail
  go_at_call 41
  (with_reducible refine (obsEval_any 5 [] none 0 0 bothE _ v3 (by unfold I64; omega) (RB.out v3 (Below.refl _ _)) (by decide) (SlR.nil _ _ _)).mono ?_)
  rintro x w1 ⟨hx, e1⟩
  rw [bothE_5] at hx
  have hx' : x = .returned (.agg #[.int .i64 2, .int .i64 0, .bool false]) := hx
  subst hx'
  have BB1 := Lib.hid (BB.out.below e1)
  have HB2 := Lib.hid (HB1.out.trans (e1.mono HB1.out.size))
  have RB1 := Lib.hid (RB.out w1 e1)
  clear hx e1 BB HB1 RB a0 a1 a2 a3
  obtain ⟨a0, a1, a2, a3, -, -, -, -⟩ := blk4 BB1.out
  go_wp2_with fail
  go_at_call 41
  (with_reducible refine (obsEval_any 19723 [] none 0 0 bothE _ w1 (by unfold I64; omega) RB1.out (by decide) (SlR.nil _ _ _)).mono ?_)
  rintro x w2 ⟨hx, e1⟩
  rw [bothE_on] at hx
  have hx' : x = .returned (.agg #[.int .i64 0, .int .i64 0, .bool false]) := hx
  subst hx'
  have HB3 := Lib.hid (HB2.out.trans (e1.mono HB2.out.size))
  clear hx e1
  go_wp2_with fail
  go_ret
  exact ⟨rfl, HB3.out⟩
end Go.Proofs.Ytppnmeobnilojaa
