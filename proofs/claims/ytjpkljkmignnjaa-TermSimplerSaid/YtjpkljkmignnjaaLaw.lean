/- Slices in blocks that are known whole; the law's own example. -/
import Derived.Test.YtjpkljkmignnjaaSimple
import Derived.Test.YtjpkljkmignnjaaSameT
import Derived.Test.YtjpkljkmignnjaaSep
import Derived.Test.YtjpkljkmignnjaaReg
namespace Go.Proofs.Ytjpkljkmignnjaa
set_option linter.unusedVariables false
set_option linter.unusedSimpArgs false
open Go.RowKit
/-- A block of one element of four cells is a slice of one. -/
theorem slR_one {α : Type} {K : Elt α} (hK : K.sz = 4) {w : World} {X : List Nat} {x : α} {g cap : Nat} {ty : TypeId} {c0 c1 c2 c3 : Value} (hB : Mem.Blk w g ty #[c0, c1, c2, c3]) (hg : g ∉ X) (hR : K.R w X x [c0, c1, c2, c3]) (h1 : 1 ≤ cap) (h2 : cap ≤ 9223372036854775807) :
    SlR K w X [x] (some ⟨g, 0, none⟩) 1 cap := by
  refine ⟨[[c0, c1, c2, c3]], rfl, fun i y cs hy hc => ?_, rfl, h1, h2, fun _ => ⟨g, 0, rfl, hB.lt, hg, fun i cs hi => ?_⟩⟩
  · cases i with
    | zero => simp at hy hc; subst hy; subst hc; exact hR
    | succ i => simp at hy
  · cases i with
    | zero =>
      simp at hi; subst hi
      refine ⟨by rw [hK]; rfl, fun j c hj => ?_⟩
      rw [hB.cell, show 0 + 0 * K.sz + j = j by omega]
      simpa using hj
    | succ i => simp at hi
def usd : ByteArray := ⟨#[85, 83, 68]⟩
def oneT : Te := .mk 2 usd [] []
def giveT (t : Te) : Te := .mk 3 ⟨#[]⟩ [] [t]
theorem twice_built : bT (giveT (giveT oneT)) = true := by kernel_rfl
theorem twice_right : rT (giveT (giveT oneT)) = true := by
  have h : rT (giveT (giveT oneT)) = (decide ((giveT (giveT oneT)).nd ≤ 200 ∧ (giveT (giveT oneT)).rk ≤ 16) && bT (giveT (giveT oneT))) := rfl
  rw [h, twice_built]
  decide
theorem twice_top : topT (giveT (giveT oneT)) = oneT := by
  unfold topT
  rw [if_pos twice_right]
  simp [giveT, oneT, sT, sT_go, ruleT, Te.op, Te.terms]
theorem sep4 (w : World) (t : TypeId) (c0 c1 c2 c3 : Array Value) :
    Sep ((((w.alloc (.cells c0 t)).alloc (.cells c1 t)).alloc (.cells c2 t)).alloc (.cells c3 t)) [bx (w.heap.size + 1 + 1 + 1) t c3, bx (w.heap.size + 1 + 1) t c2, bx (w.heap.size + 1) t c1, bx w.heap.size t c0] := by
  have h := ((((Sep.nil w).new t c0).new t c1).new t c2).new t c3
  simpa using h
theorem below4 (w : World) (a b c d : Obj) : Below w.heap.size w ((((w.alloc a).alloc b).alloc c).alloc d) :=
  ((((Below.refl w.heap.size w).alloc (Nat.le_refl _) a).alloc (by simp) b).alloc (by simp; omega) c).alloc (by simp; omega) d
set_option maxRecDepth 100000 in
set_option maxHeartbeats 1000000 in
theorem awake_any (w : World) : Calls Try.prog 7 #[] w fun x w' => x = .returned (.bool true) ∧ Below w.heap.size w w' := by
  go_enter Try.func7, Try.ntmps7
  go_wp2_with fail
  have HS := Lib.hid (sep4 w 33 #[.int .i64 2, .string ⟨#[85, 83, 68]⟩, .slice none 0 0, .slice none 0 0] #[.int .i64 2, .string ⟨#[85, 83, 68]⟩, .slice none 0 0, .slice none 0 0] #[.int .i64 3, .string ⟨#[]⟩, .slice none 0 0, .slice (some ⟨w.heap.size + 1, 0, none⟩) 1 1] #[.int .i64 3, .string ⟨#[]⟩, .slice none 0 0, .slice (some ⟨w.heap.size + 1 + 1, 0, none⟩) 1 1])
  have HB := Lib.hid (below4 w (.cells #[.int .i64 2, .string ⟨#[85, 83, 68]⟩, .slice none 0 0, .slice none 0 0] 33) (.cells #[.int .i64 2, .string ⟨#[85, 83, 68]⟩, .slice none 0 0, .slice none 0 0] 33) (.cells #[.int .i64 3, .string ⟨#[]⟩, .slice none 0 0, .slice (some ⟨w.heap.size + 1, 0, none⟩) 1 1] 33) (.cells #[.int .i64 3, .string ⟨#[]⟩, .slice none 0 0, .slice (some ⟨w.heap.size + 1 + 1, 0, none⟩) 1 1] 33))
  generalize ((((w.alloc (.cells #[.int .i64 2, .string ⟨#[85, 83, 68]⟩, .slice none 0 0, .slice none 0 0] 33)).alloc (.cells #[.int .i64 2, .string ⟨#[85, 83, 68]⟩, .slice none 0 0, .slice none 0 0] 33)).alloc (.cells #[.int .i64 3, .string ⟨#[]⟩, .slice none 0 0, .slice (some ⟨w.heap.size + 1, 0, none⟩) 1 1] 33)).alloc (.cells #[.int .i64 3, .string ⟨#[]⟩, .slice none 0 0, .slice (some ⟨w.heap.size + 1 + 1, 0, none⟩) 1 1] 33)) = v at *
  have B3 := Lib.hid (HS.out.blk 0 rfl)
  have B2 := HS.out.blk 1 rfl
  have B1 := HS.out.blk 2 rfl
  have B0 := Lib.hid (HS.out.blk 3 rfl)
  have R0 : RepT v [] oneT [.int .i64 2, .string usd, .slice none 0 0, .slice none 0 0] := RepT.mk' (by unfold I64; omega) (by decide) (SlE.nil _ _) (SlT.nil _ _)
  have R1 : RepT v [] (giveT oneT) [.int .i64 3, .string ⟨#[]⟩, .slice none 0 0, .slice (some ⟨w.heap.size + 1, 0, none⟩) 1 1] := RepT.mk' (by unfold I64; omega) (by decide) (SlE.nil _ _) (slR_one (K := teK) rfl B1 (by simp) R0 (by omega) (by omega)).slT
  have R2 := Lib.hid (show RepT v [] (giveT (giveT oneT)) [.int .i64 3, .string ⟨#[]⟩, .slice none 0 0, .slice (some ⟨w.heap.size + 1 + 1, 0, none⟩) 1 1] from RepT.mk' (by unfold I64; omega) (by decide) (SlE.nil _ _) (slR_one (K := teK) rfl B2 (by simp) R1 (by omega) (by omega)).slT)
  clear HS B2 B1 R0 R1
  obtain ⟨a0, a1, a2, a3, -, -, -, -⟩ := blk4 B0.out
  obtain ⟨b0, b1, b2, b3, -, -, -, -⟩ := blk4 B3.out
  refine wp_region_till (S := fun W => (W.cell? ⟨w.heap.size, 0, none⟩ = some (.int .i64 2) ∧ W.cell? ⟨w.heap.size, 1, none⟩ = some (.string ⟨#[85, 83, 68]⟩) ∧ W.cell? ⟨w.heap.size, 2, none⟩ = some (.slice none 0 0) ∧ W.cell? ⟨w.heap.size, 3, none⟩ = some (.slice none 0 0)) ∧
    W.cell? ⟨w.heap.size + 1 + 1 + 1, 0, none⟩ = some (.int .i64 3) ∧ W.cell? ⟨w.heap.size + 1 + 1 + 1, 1, none⟩ = some (.string ⟨#[]⟩) ∧ W.cell? ⟨w.heap.size + 1 + 1 + 1, 2, none⟩ = some (.slice none 0 0) ∧ W.cell? ⟨w.heap.size + 1 + 1 + 1, 3, none⟩ = some (.slice (some ⟨w.heap.size + 1 + 1, 0, none⟩) 1 1)) 6 (by kernel_rfl) ?_
  refine till_take (i := 0) (v := ?_) rfl (by kernel_rfl) (fun _ _ _ h => h) (Or.inl ⟨by rfl, ?_⟩) ⟨⟨a0,a1,a2,a3⟩,b0,b1,b2,b3⟩ ?_
  rotate_left
  · intro W hS
    try dsimp only at hS
    go_split_ands
    go_simp
    try with_reducible rfl
  try simp only [Act.put, List.getElem_toArray, List.getElem_cons_zero, List.getElem_cons_succ, List.setIfInBounds_toArray, List.set_cons_zero, List.set_cons_succ]
  refine till_one (i := 1) (by kernel_rfl) rfl (fun K' hK => ?_)
  go_simp
  go_at_call 15
  (with_reducible refine (right_any (giveT (giveT oneT)) _ _ (R2.out.kept (Kept.of_below (Below.refl _ v).drew [])) (by decide)).mono ?_)
  rintro y w1 ⟨rfl, e1⟩
  rw [twice_right]
  have HB1 := Lib.hid (HB.out.drew.trans (e1.mono HB.out.size))
  have B01 := Lib.hid (B0.out.drew.below e1)
  have B31 := Lib.hid (B3.out.drew.below e1)
  have R21 := Lib.hid ((R2.out.kept (Kept.of_below (Below.refl _ v).drew [])).kept (Kept.of_below e1 []))
  clear e1 HB B0 B3 R2 a0 a1 a2 a3 b0 b1 b2 b3
  obtain ⟨a0, a1, a2, a3, -, -, -, -⟩ := blk4 B01.out
  obtain ⟨b0, b1, b2, b3, -, -, -, -⟩ := blk4 B31.out
  refine hK _ _ ⟨⟨a0, a1, a2, a3⟩, b0, b1, b2, b3⟩ ?_
  clear hK K'
  try simp only [Act.put, List.getElem_toArray, List.getElem_cons_zero, List.getElem_cons_succ, List.setIfInBounds_toArray, List.set_cons_zero, List.set_cons_succ]
  refine till_take (i := 2) (v := ?_) rfl (by kernel_rfl) (fun _ _ _ h => h) (Or.inl ⟨by rfl, ?_⟩) ⟨⟨a0,a1,a2,a3⟩,b0,b1,b2,b3⟩ ?_
  rotate_left
  · intro W hS
    try dsimp only at hS
    go_split_ands
    go_simp
    try with_reducible rfl
  try simp only [Act.put, List.getElem_toArray, List.getElem_cons_zero, List.getElem_cons_succ, List.setIfInBounds_toArray, List.set_cons_zero, List.set_cons_succ]
  refine till_take (i := 3) (v := ?_) rfl (by kernel_rfl) (fun _ _ _ h => h) (Or.inl ⟨by rfl, ?_⟩) ⟨⟨a0,a1,a2,a3⟩,b0,b1,b2,b3⟩ ?_
  rotate_left
  · intro W hS
    try dsimp only at hS
    go_split_ands
    go_simp
    try with_reducible rfl
  try simp only [Act.put, List.getElem_toArray, List.getElem_cons_zero, List.getElem_cons_succ, List.setIfInBounds_toArray, List.set_cons_zero, List.set_cons_succ]
  refine till_take (i := 5) (v := ?_) rfl (by kernel_rfl) (fun _ _ _ h => h) (Or.inl ⟨by rfl, ?_⟩) ⟨⟨a0,a1,a2,a3⟩,b0,b1,b2,b3⟩ ?_
  rotate_left
  · intro W hS
    try dsimp only at hS
    go_split_ands
    go_simp
    try with_reducible rfl
  try simp only [Act.put, List.getElem_toArray, List.getElem_cons_zero, List.getElem_cons_succ, List.setIfInBounds_toArray, List.set_cons_zero, List.set_cons_succ]
  refine till_one (i := 4) (by kernel_rfl) rfl (fun K' hK => ?_)
  go_simp
  go_at_call 9
  (with_reducible refine (simpleTop_any (giveT (giveT oneT)) [] _ _ R21.out (fun b hb => absurd hb List.not_mem_nil) (by decide)).mono ?_)
  rintro y w2 ⟨⟨cs', rfl, hrep⟩, e2⟩
  rw [twice_top] at hrep
  have HB2 := Lib.hid (HB1.out.trans (e2.mono HB1.out.size))
  have B02 := Lib.hid (B01.out.below e2)
  have B32 := Lib.hid (B31.out.below e2)
  have R22 := Lib.hid hrep
  obtain ⟨o5, e5, x5, t5, p5, l5, r5, p6, l6, r6, _, rfl, _⟩ := hrep.inv
  clear e2 HB1 B01 B31 R21 hrep a0 a1 a2 a3 b0 b1 b2 b3
  obtain ⟨a0, a1, a2, a3, -, -, -, -⟩ := blk4 B02.out
  obtain ⟨b0, b1, b2, b3, -, -, -, -⟩ := blk4 B32.out
  refine hK _ _ ⟨⟨a0, a1, a2, a3⟩, b0, b1, b2, b3⟩ ?_
  clear hK K'
  try simp only [Act.put, List.getElem_toArray, List.getElem_cons_zero, List.getElem_cons_succ, List.setIfInBounds_toArray, List.set_cons_zero, List.set_cons_succ]
  refine till_last (by kernel_rfl) rfl (by kernel_rfl) (fun K' hK => ?_)
  go_simp
  go_at_call 21
  (with_reducible refine (same_any oneT.rk oneT (Nat.le_refl _) oneT _ _ _ R22.out (RepT.mk' (by unfold I64; omega) (by decide) (SlE.nil _ _) (SlT.nil _ _))).mono ?_)
  rintro y w3 ⟨rfl, e3⟩
  rw [eqv_yes rfl]
  have HB3 := Lib.hid (HB2.out.trans (e3.mono HB2.out.size))
  refine hK _ _ ?_
  clear hK K' e3
  try simp only [Act.put, List.getElem_toArray, List.getElem_cons_zero, List.getElem_cons_succ, List.setIfInBounds_toArray, List.set_cons_zero, List.set_cons_succ]
  refine any_take (i := 7) (v := ?_) rfl (by kernel_rfl) (fun _ _ _ h => h) (Or.inl ⟨by rfl, ?_⟩) ?_
  rotate_left
  · intro W
    go_simp
    try with_reducible rfl
  try simp only [Act.put, List.getElem_toArray, List.getElem_cons_zero, List.getElem_cons_succ, List.setIfInBounds_toArray, List.set_cons_zero, List.set_cons_succ]
  refine any_take (i := 8) (v := ?_) rfl (by kernel_rfl) (fun _ _ _ h => h) (Or.inl ⟨by rfl, ?_⟩) ?_
  rotate_left
  · intro W
    go_simp
    try with_reducible rfl
  try simp only [Act.put, List.getElem_toArray, List.getElem_cons_zero, List.getElem_cons_succ, List.setIfInBounds_toArray, List.set_cons_zero, List.set_cons_succ]
  refine wpAny_done (by kernel_rfl) ?_ _
  go_wp2
  go_ret
  exact ⟨rfl, HB3.out⟩
end Go.Proofs.Ytjpkljkmignnjaa
