/- TermWords: for every text the law returns true. -/
import Derived.Test.YtjpkljkmignnjaaLaw
import Derived.Test.YtjpkljkmignnjaaRefT
namespace Go.Proofs.Ytjpkljkmignnjaa
open Go.RowKit
theorem rT_one (s : ByteArray) : rT (.mk 2 s [] []) = fre s := by
  have h : rT (.mk 2 s [] []) = (decide ((Te.mk 2 s [] []).nd ≤ 200 ∧ (Te.mk 2 s [] []).rk ≤ 16) && bT (.mk 2 s [] [])) := rfl
  rw [h, decide_eq_true (by simp [Te.nd, Te.rk, Te.nd.go, Te.rk.go, Ex.nd.go, Ex.rk.go]), Bool.true_and, bT, bT_go]
  simp [arX, arT, okT]
theorem rE_see (s : ByteArray) : rE (.mk 3 0 s []) = fre s := by
  have h : rE (.mk 3 0 s []) = (decide ((Ex.mk 3 0 s []).nd ≤ 200 ∧ (Ex.mk 3 0 s []).rk ≤ 16) && bE (.mk 3 0 s [])) := rfl
  rw [h, decide_eq_true (by simp [Ex.nd.go, Ex.rk.go, Ex.nd, Ex.rk]), Bool.true_and, bE]
  simp [bE.go, ar, okE]
set_option maxRecDepth 100000 in
set_option maxHeartbeats 1000000 in
theorem words_any (s : ByteArray) (w : World) (hs : s.size ≤ maxLen) : Calls Try.prog 4 #[.string s] w fun x w' => x = .returned (.bool true) ∧ Below w.heap.size w w' := by
  unfold maxLen at hs
  have HF1 := Lib.hid (rT_one s)
  have HF2 := Lib.hid (rE_see s)
  by_cases hl : 300 < s.size
  · go_enter Try.func4, Try.ntmps4
    go_wp2_with fail
    go_at_call 7
    (with_reducible refine (awake_any _).mono ?_)
    rintro e w' ⟨rfl, b⟩
    go_wp2_with fail
    go_ret
    exact ⟨rfl, b⟩
  · have HS := Lib.hid (((Sep.nil w).new 33 #[.int .i64 2, .string s, .slice none 0 0, .slice none 0 0]).new 38 #[.int .i64 3, .int .i64 0, .string s, .slice none 0 0])
    rw [show (w.alloc (.cells #[.int .i64 2, .string s, .slice none 0 0, .slice none 0 0] 33)).heap.size = w.heap.size + 1 by simp] at HS
    have HB := Lib.hid (((Below.refl w.heap.size w).alloc (Nat.le_refl _) (.cells #[.int .i64 2, .string s, .slice none 0 0, .slice none 0 0] 33)).alloc (by simp) (.cells #[.int .i64 3, .int .i64 0, .string s, .slice none 0 0] 38))
    have hss : Hid (s.size ≤ 9223372036854775807) := by show _ ≤ _; omega
    have hRT : Hid (∀ W, RepT W [] (.mk 2 s [] []) [.int .i64 2, .string s, .slice none 0 0, .slice none 0 0]) := fun W => RepT.mk' (by unfold I64; omega) hss.out (SlE.nil _ _) (SlT.nil _ _)
    have hRE : Hid (∀ W, RepE W [] (.mk 3 0 s []) [.int .i64 3, .int .i64 0, .string s, .slice none 0 0]) := fun W => RepE.mk' (by unfold I64; omega) (by unfold I64; omega) hss.out (SlE.nil _ _)
    have t0 : ∀ b : Bool, (b == b) = true := fun b => by cases b <;> rfl
    have t1 := t0 (rsv s)
    have t2 := t0 (fre s)
    clear t0 hs
    go_enter Try.func4, Try.ntmps4
    go_wp2_with fail
    generalize (w.alloc (.cells #[.int .i64 2, .string s, .slice none 0 0, .slice none 0 0] 33)).alloc (.cells #[.int .i64 3, .int .i64 0, .string s, .slice none 0 0] 38) = v at *
    go_at_call 13
    (with_reducible refine (reserved_any _ _).mono ?_)
    rintro e w' ⟨rfl, rfl⟩
    go_wp2_with fail
    go_at_call 14
    (with_reducible refine (rreserved_any _ _).mono ?_)
    rintro e v1 ⟨rfl, b1⟩
    have HS1 := Lib.hid (HS.out.below b1)
    have HB1 := Lib.hid (HB.out.trans (b1.mono HB.out.size))
    obtain ⟨a0, a1, a2, a3, -, -, -, -⟩ := blk4 (HS1.out.blk 1 rfl)
    clear b1 HS HB
    go_wp2_with fail
    go_at_call 15
    (with_reducible refine (right_any (.mk 2 s [] []) _ _ (hRT.out v1) (by simp [Te.rk, Te.rk.go, Ex.rk.go])).mono ?_)
    rintro e v2 ⟨rfl, b2⟩
    rw [HF1.out]
    have HS2 := Lib.hid (HS1.out.below b2)
    have HB2 := Lib.hid (HB1.out.trans (b2.mono HB1.out.size))
    clear b2 HS1 HB1 a0 a1 a2 a3
    go_wp2_with fail
    go_at_call 16
    (with_reducible refine (rfree_any _ _ hss.out).mono ?_)
    rintro e v3 ⟨rfl, b3⟩
    have HS3 := Lib.hid (HS2.out.below b3)
    have HB3 := Lib.hid (HB2.out.trans (b3.mono HB2.out.size))
    obtain ⟨a0, a1, a2, a3, -, -, -, -⟩ := blk4 (HS3.out.blk 0 rfl)
    clear b3 HS2 HB2
    go_wp2_with fail
    go_at_call 17
    (with_reducible refine (rightExpr_any (.mk 3 0 s []) _ _ (hRE.out v3) (by simp [Ex.rk, Ex.rk.go])).mono ?_)
    rintro e v4 ⟨rfl, b4⟩
    rw [HF2.out]
    have HB4 := Lib.hid (HB3.out.trans (b4.mono HB3.out.size))
    clear b4 HS3 HB3 a0 a1 a2 a3
    go_wp2_with fail
    go_at_call 16
    (with_reducible refine (rfree_any _ _ hss.out).mono ?_)
    rintro e v5 ⟨rfl, b5⟩
    have HB5 := Lib.hid (HB4.out.trans (b5.mono HB4.out.size))
    clear b5 HB4
    go_wp2_with fail
    go_at_call 7
    (with_reducible refine (awake_any _).mono ?_)
    rintro e v6 ⟨rfl, b6⟩
    have HB6 := Lib.hid (HB5.out.trans (b6.mono HB5.out.size))
    clear b6 HB5
    go_wp2_with fail
    go_ret
    exact ⟨rfl, HB6.out⟩
end Go.Proofs.Ytjpkljkmignnjaa
