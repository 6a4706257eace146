/- The contract of Simple: whatever the term is. -/
import Derived.Test.YtjpkljkmignnjaaSimpC
import Derived.Test.YtjpkljkmignnjaaRight
namespace Go.Proofs.Ytjpkljkmignnjaa
set_option linter.unusedVariables false
set_option linter.unusedSimpArgs false
open Go.RowKit
noncomputable def topT (e : Te) : Te := if rT e = true then sT e else e
theorem rT_built {e : Te} (h : rT e = true) : bT e = true := by
  have : rT e = (decide (e.nd ≤ 200 ∧ e.rk ≤ 16) && bT e) := rfl
  rw [this, Bool.and_eq_true] at h
  exact h.2
set_option maxRecDepth 100000 in
set_option maxHeartbeats 1000000 in
theorem simpleTop_any (e : Te) (X : List Nat) (cs : List Value) (w : World) (hR : RepT w X e cs) (hX : ∀ b ∈ X, b < w.heap.size) (hk : e.rk ≤ 1000) :
    Calls Try.prog 9 #[.agg cs.toArray] w fun x w' => (∃ cs', x = .returned (.agg cs'.toArray) ∧ RepT w' X (topT e) cs') ∧ Below w.heap.size w w' := by
  have HRG := Lib.hid (fun W hW => right_any e cs W ((hR.less (X' := []) (fun b _ hm => by cases hm)).kept hW) hk)
  have HSI := Lib.hid (fun W hW (hr : rT e = true) => simple_any e.rk e (Nat.le_refl _) (rT_built hr) ((w.heap.size + 1) :: X) cs W ((hR.less (X' := (w.heap.size + 1) :: X) (fun b hb hm => by rcases List.mem_cons.1 hm with rfl | hm; exact absurd hb (by omega); exact hm)).kept hW))
  have HRX := Lib.hid (hR.less (X' := (w.heap.size + 1) :: X) (fun b hb hm => by rcases List.mem_cons.1 hm with rfl | hm; exact absurd hb (by omega); exact hm))
  have HXX := Lib.hid hX
  have htop := Lib.hid (show topT e = if rT e = true then sT e else e from rfl)
  obtain ⟨op, nm, ex, te, a, len, cap, a2, len2, cap2, he, rfl, _, _, _, _⟩ := hR.inv
  clear he
  have HW0 := Lib.hid (((Below.refl w.heap.size w).alloc (Nat.le_refl _) (.cells #[.int .i64 op, .string nm, .slice a len cap, .slice a2 len2 cap2] 33)).alloc (by simp) (.cells #[.int .i64 0, .string ⟨#[]⟩, .slice none 0 0, .slice none 0 0] 33))
  have BX := Lib.hid ((Mem.Blk.new w 33 #[.int .i64 op, .string nm, .slice a len cap, .slice a2 len2 cap2]).alloc (.cells #[.int .i64 0, .string ⟨#[]⟩, .slice none 0 0, .slice none 0 0] 33))
  have BY := Lib.hid (Mem.Blk.new (w.alloc (.cells #[.int .i64 op, .string nm, .slice a len cap, .slice a2 len2 cap2] 33)) 33 #[.int .i64 0, .string ⟨#[]⟩, .slice none 0 0, .slice none 0 0])
  rw [show (w.alloc (.cells #[.int .i64 op, .string nm, .slice a len cap, .slice a2 len2 cap2] 33)).heap.size = w.heap.size + 1 by simp] at BY
  clear hR hk hX
  go_enter Try.func9, Try.ntmps9
  go_wp2_with fail
  generalize (w.alloc (.cells #[.int .i64 op, .string nm, .slice a len cap, .slice a2 len2 cap2] 33)).alloc (.cells #[.int .i64 0, .string ⟨#[]⟩, .slice none 0 0, .slice none 0 0] 33) = v at *
  go_at_call 15
  (with_reducible refine (HRG.out _ (Kept.of_below HW0.out _)).mono ?_)
  rintro y w1 ⟨rfl, b1⟩
  have HW1 := Lib.hid (HW0.out.trans (b1.mono HW0.out.size))
  have BX1 := Lib.hid (BX.out.below b1)
  have BY1 := Lib.hid (BY.out.below b1)
  obtain ⟨c0, c1, c2, c3, -, -, -, -⟩ := blk4 BX1.out
  obtain ⟨z0, z1, z2, z3, y0, y1, y2, y3⟩ := blk4 BY1.out
  clear b1 HRG
  by_cases hr : rT e = true
  · rw [hr]
    have HC := Lib.hid (HSI.out w1 (Kept.of_below HW1.out _) hr (fun b hb => by
      rcases List.mem_cons.1 hb with rfl | hb
      · exact BY1.out.lt
      · exact Nat.lt_of_lt_of_le (HXX.out b hb) HW1.out.size))
    have hts : Hid (topT e = sT e) := by show _ = _; rw [htop.out, if_pos hr]
    clear hr HSI
    go_wp2_with fail
    go_at_call 24
    (with_reducible refine HC.out.mono ?_)
    rintro y w2 ⟨⟨cs', rfl, hrep⟩, b2⟩
    have HW2 := Lib.hid (HW1.out.trans (b2.mono HW1.out.size))
    have BY2 := Lib.hid (BY1.out.below b2)
    have HREP := Lib.hid hrep
    obtain ⟨o5, e5, x5, t5, p5, l5, r5, p6, l6, r6, _, rfl, _⟩ := hrep.inv
    clear hrep b2 c0 c1 c2 c3 z0 z1 z2 z3 y0 y1 y2 y3
    obtain ⟨z0, z1, z2, z3, y0, y1, y2, y3⟩ := blk4 BY2.out
    go_wp2_with fail
    obtain ⟨n1, n2, n3⟩ := simp_fin HW2.out BY2.out HREP.out
    rw [← hts.out] at n1
    exact bodyPost_ret (by simp [results, Try.results9, go_sem, z0, z1, z2, z3]) rfl ⟨⟨_, rfl, n1⟩, n2⟩
  · have hr' : rT e = false := by simpa using hr
    rw [hr']
    have hts : Hid (topT e = e) := by show _ = _; rw [htop.out, if_neg hr]
    clear hr hr' HSI
    go_wp2_with fail
    obtain ⟨n1, n2, n3⟩ := simp_fin HW1.out BY1.out (HRX.out.kept (Kept.of_below HW1.out _))
    rw [← hts.out] at n1
    exact bodyPost_ret (by simp [results, Try.results9, go_sem, z0, z1, z2, z3]) rfl ⟨⟨_, rfl, n1⟩, n2⟩
end Go.Proofs.Ytjpkljkmignnjaa
