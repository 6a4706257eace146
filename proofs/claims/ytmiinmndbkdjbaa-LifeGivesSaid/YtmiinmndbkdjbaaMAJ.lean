/- A part of the proof: Evl, Evm, one behind another. -/
import Derived.Test.YtmiinmndbkdjbaaMAA
import Derived.Test.YtmiinmndbkdjbaaMAB
import Derived.Test.YtmiinmndbkdjbaaMAC
import Derived.Test.YtmiinmndbkdjbaaMAD
import Derived.Test.YtmiinmndbkdjbaaMAE
import Derived.Test.YtmiinmndbkdjbaaMAF
import Derived.Test.YtmiinmndbkdjbaaMAG
import Derived.Test.YtmiinmndbkdjbaaMAH
import Derived.Test.YtmiinmndbkdjbaaMAI
/- The contract of eval: of a right expression with a kind. -/
namespace Go.Proofs.Ytmiinmndbkdjbaa
set_option linter.unusedVariables false
set_option linter.unusedSimpArgs false
open Go.RowKit
theorem i64_N (o : Option Int) (h : ∀ v, o = some v → I64 v) : I64 (numV o).N := by
  cases o with
  | none => show I64 0; unfold I64; omega
  | some v => exact h v rfl
theorem i64_0 : I64 0 := by unfold I64; omega
theorem i64_fit (z : Int) : ∀ v, fitI z = some v → I64 v := by
  intro v h
  unfold fitI at h
  split at h
  · injection h with h; subst h; assumption
  · cases h
theorem seen_i64 {day : Int} {fx : List Fx} (hf : ∀ f ∈ fx, I64 f.val) (nm : ByteArray) : I64 (seenV day fx nm).N := by
  have key : ∀ (l : List Fx) (b : Option (Int × Int)), (∀ f ∈ l, I64 f.val) → (∀ p, b = some p → I64 p.2) → ∀ p, seenF day nm l b = some p → I64 p.2 := by
    intro l
    induction l with
    | nil => intro b _ hb p hp; exact hb p hp
    | cons x t ih =>
      intro b hl hb p hp
      rw [seenF] at hp
      refine ih _ (fun f hf => hl f (List.mem_cons_of_mem _ hf)) (fun q hq => ?_) p hp
      split at hq
      · injection hq with hq; subst hq; exact hl x (List.mem_cons_self ..)
      · exact hb q hq
  unfold seenV
  cases h : seenF day nm fx none with
  | none => exact i64_0
  | some p => exact key fx none hf (fun p hp => by cases hp) p h
theorem eval_i64 {day : Int} {fx : List Fx} (hd : I64 day) (hf : ∀ f ∈ fx, I64 f.val) : ∀ (r : Nat) (e : Ex), e.rk ≤ r → NumsE e → I64 (evalE day fx e).N := by
  intro r
  induction r with
  | zero => intro e h; have := e.rk_pos; omega
  | succ r ih =>
    intro e hr hn
    obtain ⟨op, n, nm, l⟩ := e
    obtain ⟨m1, m2⟩ := hn
    have hk : ∀ i, I64 ((l.map (evalE day fx)).getD i .unk).N := by
      intro i
      rw [List.getD_eq_getElem?_getD, List.getElem?_map]
      cases hc : l[i]? with
      | none => exact i64_0
      | some c => exact ih c (by have := Ex.rk_lt (op := op) (n := n) (nm := nm) hc; omega) (nums_go.1 m2 c (List.mem_of_getElem? hc))
    rw [evalE_mk]
    generalize l.map (evalE day fx) = vs at *
    unfold evO
    by_cases h1 : op = 1 ∨ op = 2
    · rw [if_pos h1]; exact m1
    rw [if_neg h1]
    by_cases h2 : op = 4
    · rw [if_pos h2]; exact hd
    rw [if_neg h2]
    by_cases h3 : op = 3
    · rw [if_pos h3]; exact seen_i64 hf nm
    rw [if_neg h3]
    unfold opV
    by_cases h4 : op = 17 ∨ op = 18
    · rw [if_pos h4]
      unfold bothV
      split
      · exact hk 0
      · split
        · exact hk 1
        · exact i64_0
    rw [if_neg h4]
    by_cases h5 : op = 21
    · rw [if_pos h5]
      split
      · exact i64_0
      · exact i64_0
      · exact hk 2
      · split
        · exact hk 1
        · exact hk 2
    rw [if_neg h5]
    by_cases h6 : op = 19
    · rw [if_pos h6]
      split <;> exact i64_0
    rw [if_neg h6]
    by_cases h7 : op = 20
    · rw [if_pos h7]
      split
      · exact i64_0
      · exact i64_0
      · exact i64_N _ (i64_fit _)
      · exact i64_0
    rw [if_neg h7]
    split
    · exact i64_0
    split
    · exact i64_0
    unfold twoV
    split
    · refine i64_N _ (fun v hv => value_bd (fun x hx => ?_) hv)
      simp at hx
      rcases hx with rfl | rfl
      · exact hk 0
      · exact hk 1
    · exact i64_0
theorem seen_two (day : Int) (fx : List Fx) (nm : ByteArray) : seenV day fx nm = .unk ∨ ∃ n, seenV day fx nm = .num n := by
  unfold seenV
  split
  · exact .inr ⟨_, rfl⟩
  · exact .inl rfl
theorem fxs_i64 {w : World} {X : List Nat} {fx : List Fx} {a : Option Addr} {len cap : Nat} (h : SlR fxK w X fx a len cap) : ∀ f ∈ fx, I64 f.val := by
  intro f hf
  obtain ⟨k, hk⟩ := List.getElem?_of_mem hf
  obtain ⟨b, o, f', -, -, -, hf', -, -, h3, -⟩ := fx_at h k (by have := (List.getElem?_eq_some_iff.1 hk).1; have := h.facts.1; omega)
  rw [hk] at hf'; injection hf' with hf'; subst hf'; exact h3
/-- The k-th expression within: where it lies, and that it is one. -/
theorem arg_at {w : World} {l : List Ex} {a : Option Addr} {len cap : Nat} (h : SlE w [] l a len cap) (k : Nat) (hk : k < len) : ∃ b o x c0 c1 c2 s0 s1 s2, a = some ⟨b, o, none⟩ ∧ b < w.heap.size ∧ l[k]? = some x ∧
    RepE w [] x [.int .i64 c0, .int .i64 c1, .string c2, .slice s0 s1 s2] ∧ Four w b (o + k * 4) (.int .i64 c0) (.int .i64 c1) (.string c2) (.slice s0 s1 s2) := by
  obtain ⟨b, o, op, n, nm, ar, a', l', p', ha, hb, -, hl, h1, h2, h3, hS, hF⟩ := h.at k hk
  exact ⟨b, o, _, op, n, nm, a', l', p', ha, hb, hl, RepE.mk' h1 h2 h3 hS, hF⟩
set_option maxRecDepth 100000 in
set_option maxHeartbeats 4000000 in
theorem evLeaf_any (day : Int) (fx : List Fx) (a : Option Addr) (len cap : Nat) (op n : Int) (nm : ByteArray) (a' : Option Addr) (len' cap' : Nat) (w : World) (hf : SlR fxK w [] fx a len cap) (ho : 1 ≤ op ∧ op ≤ 4) :
    Calls Try.prog 60 #[.agg #[.int .i64 day, .slice a len cap], .agg #[.int .i64 op, .int .i64 n, .string nm, .slice a' len' cap']] w fun x w' => RetV (evO day fx op n nm []) x ∧ Below w.heap.size w w' := by
  have ST := Lib.hid (EvSt.start w day a len cap op n nm a' len' cap')
  have HSE := Lib.hid (fun W (hW : Below w.heap.size w W) => seen_any day fx nm a len cap W (hf.kept (Kept.of_below hW [])))
  have HR : Hid (evO day fx op n nm [] = if op = 1 ∨ op = 2 then .num n else if op = 4 then .num day else if op = 3 then seenV day fx nm else opV op []) := rfl
  have HS2 := Lib.hid (seen_two day fx nm)
  obtain ⟨R, hR⟩ : ∃ R, R = evO day fx op n nm [] := ⟨_, rfl⟩
  rw [← hR] at HR ⊢
  generalize seenV day fx nm = sv at *
  clear hR hf
  have hop : op = 1 ∨ op = 2 ∨ op = 3 ∨ op = 4 := by omega
  clear ho
  rcases hop with rfl | rfl | rfl | rfl
  · obtain rfl : R = .num n := HR.out
    clear HR
    go_enter Try.func60, Try.ntmps60
    go_upto_region 1 with (fail)
    generalize ((w.alloc (.cells #[.int .i64 day, .slice a len cap] 44)).alloc (.cells #[.int .i64 1, .int .i64 n, .string nm, .slice a' len' cap'] 53)).alloc (.cells #[.int .i64 0, .int .i64 0, .bool false] 98) = v at *
    obtain ⟨e0, e1, -, -⟩ := ST.out.env.two
    obtain ⟨x0, x1, x2, x3, -, -, -, -⟩ := blk4 ST.out.ex
    go_wp2_with fail
    clear e0 e1 x0 x1 x2 x3
    go_at_call 70
    (with_reducible refine (number_any n true _).mono ?_)
    rintro y w2 ⟨hy, b2⟩
    have hy' : y = .returned (.agg #[.int .i64 1, .int .i64 n, .bool false]) := hy
    subst hy'
    have ST2 := Lib.hid (ST.out.up b2)
    clear b2 hy
    have HFN := Lib.hid (ret3 (.int .i64 1) (.int .i64 n) (.bool false) ST2.out.below (by omega : w.heap.size ≤ w.heap.size + 1 + 1) ST2.out.res)
    obtain ⟨q0, q1, q2, q3, q4, q5⟩ := blk3 ST2.out.res
    have hm := ST2.out.lt
    go_wp2_with fail
    generalize ((w2.setCell ⟨w.heap.size + 1 + 1, 0, none⟩ (.int .i64 1)).setCell ⟨w.heap.size + 1 + 1, 1, none⟩ (.int .i64 n)).setCell ⟨w.heap.size + 1 + 1, 2, none⟩ (.bool false) = W9 at *
    obtain ⟨r0, r1, r2, -, -, -⟩ := blk3 HFN.out.2
    refine bodyPost_ret (v := .agg #[.int .i64 1, .int .i64 n, .bool false]) (by simp [results, Try.results60, go_sem, r0, r1, r2]) rfl ⟨rfl, HFN.out.1⟩
  · obtain rfl : R = .num n := HR.out
    clear HR
    go_enter Try.func60, Try.ntmps60
    go_upto_region 1 with (fail)
    generalize ((w.alloc (.cells #[.int .i64 day, .slice a len cap] 44)).alloc (.cells #[.int .i64 2, .int .i64 n, .string nm, .slice a' len' cap'] 53)).alloc (.cells #[.int .i64 0, .int .i64 0, .bool false] 98) = v at *
    obtain ⟨e0, e1, -, -⟩ := ST.out.env.two
    obtain ⟨x0, x1, x2, x3, -, -, -, -⟩ := blk4 ST.out.ex
    go_wp2_with fail
    clear e0 e1 x0 x1 x2 x3
    go_at_call 70
    (with_reducible refine (number_any n true _).mono ?_)
    rintro y w2 ⟨hy, b2⟩
    have hy' : y = .returned (.agg #[.int .i64 1, .int .i64 n, .bool false]) := hy
    subst hy'
    have ST2 := Lib.hid (ST.out.up b2)
    clear b2 hy
    have HFN := Lib.hid (ret3 (.int .i64 1) (.int .i64 n) (.bool false) ST2.out.below (by omega : w.heap.size ≤ w.heap.size + 1 + 1) ST2.out.res)
    obtain ⟨q0, q1, q2, q3, q4, q5⟩ := blk3 ST2.out.res
    have hm := ST2.out.lt
    go_wp2_with fail
    generalize ((w2.setCell ⟨w.heap.size + 1 + 1, 0, none⟩ (.int .i64 1)).setCell ⟨w.heap.size + 1 + 1, 1, none⟩ (.int .i64 n)).setCell ⟨w.heap.size + 1 + 1, 2, none⟩ (.bool false) = W9 at *
    obtain ⟨r0, r1, r2, -, -, -⟩ := blk3 HFN.out.2
    refine bodyPost_ret (v := .agg #[.int .i64 1, .int .i64 n, .bool false]) (by simp [results, Try.results60, go_sem, r0, r1, r2]) rfl ⟨rfl, HFN.out.1⟩
  · obtain rfl : R = sv := HR.out
    clear HR
    go_enter Try.func60, Try.ntmps60
    go_upto_region 1 with (fail)
    generalize ((w.alloc (.cells #[.int .i64 day, .slice a len cap] 44)).alloc (.cells #[.int .i64 3, .int .i64 n, .string nm, .slice a' len' cap'] 53)).alloc (.cells #[.int .i64 0, .int .i64 0, .bool false] 98) = v at *
    obtain ⟨e0, e1, -, -⟩ := ST.out.env.two
    obtain ⟨x0, x1, x2, x3, -, -, -, -⟩ := blk4 ST.out.ex
    go_wp2_with fail
    go_at_call 71
    (with_reducible refine (HSE.out _ ST.out.below).mono ?_)
    rintro x w1 ⟨rfl, b1⟩
    have ST1 := Lib.hid (ST.out.up b1)
    clear ST HSE b1 e0 e1 x0 x1 x2 x3
    rcases HS2.out with rfl | ⟨m, rfl⟩
    · simp only [seenRt]
      have HFN := Lib.hid (ret3 (.int .i64 0) (.int .i64 0) (.bool false) ST1.out.below (by omega : w.heap.size ≤ w.heap.size + 1 + 1) ST1.out.res)
      obtain ⟨q0, q1, q2, q3, q4, q5⟩ := blk3 ST1.out.res
      have hm := ST1.out.lt
      go_wp2_with fail
      generalize ((w1.setCell ⟨w.heap.size + 1 + 1, 0, none⟩ (.int .i64 0)).setCell ⟨w.heap.size + 1 + 1, 1, none⟩ (.int .i64 0)).setCell ⟨w.heap.size + 1 + 1, 2, none⟩ (.bool false) = W9 at *
      obtain ⟨r0, r1, r2, -, -, -⟩ := blk3 HFN.out.2
      refine bodyPost_ret (v := .agg #[.int .i64 0, .int .i64 0, .bool false]) (by simp [results, Try.results60, go_sem, r0, r1, r2]) rfl ⟨rfl, HFN.out.1⟩
    · simp only [seenRt]
      go_wp2_with fail
      go_at_call 70
      (with_reducible refine (number_any m true _).mono ?_)
      rintro y w2 ⟨hy, b2⟩
      have hy' : y = .returned (.agg #[.int .i64 1, .int .i64 m, .bool false]) := hy
      subst hy'
      have ST2 := Lib.hid (ST1.out.up b2)
      clear b2 hy
      have HFN := Lib.hid (ret3 (.int .i64 1) (.int .i64 m) (.bool false) ST2.out.below (by omega : w.heap.size ≤ w.heap.size + 1 + 1) ST2.out.res)
      obtain ⟨q0, q1, q2, q3, q4, q5⟩ := blk3 ST2.out.res
      have hm := ST2.out.lt
      go_wp2_with fail
      generalize ((w2.setCell ⟨w.heap.size + 1 + 1, 0, none⟩ (.int .i64 1)).setCell ⟨w.heap.size + 1 + 1, 1, none⟩ (.int .i64 m)).setCell ⟨w.heap.size + 1 + 1, 2, none⟩ (.bool false) = W9 at *
      obtain ⟨r0, r1, r2, -, -, -⟩ := blk3 HFN.out.2
      refine bodyPost_ret (v := .agg #[.int .i64 1, .int .i64 m, .bool false]) (by simp [results, Try.results60, go_sem, r0, r1, r2]) rfl ⟨rfl, HFN.out.1⟩
  · obtain rfl : R = .num day := HR.out
    clear HR
    go_enter Try.func60, Try.ntmps60
    go_upto_region 1 with (fail)
    generalize ((w.alloc (.cells #[.int .i64 day, .slice a len cap] 44)).alloc (.cells #[.int .i64 4, .int .i64 n, .string nm, .slice a' len' cap'] 53)).alloc (.cells #[.int .i64 0, .int .i64 0, .bool false] 98) = v at *
    obtain ⟨e0, e1, -, -⟩ := ST.out.env.two
    obtain ⟨x0, x1, x2, x3, -, -, -, -⟩ := blk4 ST.out.ex
    go_wp2_with fail
    clear e0 e1 x0 x1 x2 x3
    go_at_call 70
    (with_reducible refine (number_any day true _).mono ?_)
    rintro y w2 ⟨hy, b2⟩
    have hy' : y = .returned (.agg #[.int .i64 1, .int .i64 day, .bool false]) := hy
    subst hy'
    have ST2 := Lib.hid (ST.out.up b2)
    clear b2 hy
    have HFN := Lib.hid (ret3 (.int .i64 1) (.int .i64 day) (.bool false) ST2.out.below (by omega : w.heap.size ≤ w.heap.size + 1 + 1) ST2.out.res)
    obtain ⟨q0, q1, q2, q3, q4, q5⟩ := blk3 ST2.out.res
    have hm := ST2.out.lt
    go_wp2_with fail
    generalize ((w2.setCell ⟨w.heap.size + 1 + 1, 0, none⟩ (.int .i64 1)).setCell ⟨w.heap.size + 1 + 1, 1, none⟩ (.int .i64 day)).setCell ⟨w.heap.size + 1 + 1, 2, none⟩ (.bool false) = W9 at *
    obtain ⟨r0, r1, r2, -, -, -⟩ := blk3 HFN.out.2
    refine bodyPost_ret (v := .agg #[.int .i64 1, .int .i64 day, .bool false]) (by simp [results, Try.results60, go_sem, r0, r1, r2]) rfl ⟨rfl, HFN.out.1⟩
end Go.Proofs.Ytmiinmndbkdjbaa

/- The contract of eval: ops on what lies within. -/
namespace Go.Proofs.Ytmiinmndbkdjbaa
set_option linter.unusedVariables false
set_option linter.unusedSimpArgs false
open Go.RowKit
set_option maxRecDepth 100000 in
set_option maxHeartbeats 4000000 in
theorem ev_and (w : World) (day : Int) (a : Option Addr) (len cap : Nat) (op n : Int) (nm : ByteArray) (b o cap' : Nat) (o0 n0 o1 n1 : Int) (m0 m1 : ByteArray) (a0 a1 : Option Addr) (l0 p0 l1 p1 : Nat) (A B : Vl) (hop : op = 17 ∨ op = 18)
    (h0 : Four w b o (.int .i64 o0) (.int .i64 n0) (.string m0) (.slice a0 l0 p0)) (h1 : Four w b (o + 4) (.int .i64 o1) (.int .i64 n1) (.string m1) (.slice a1 l1 p1))
    (HA : EvC w day a len cap (.int .i64 o0) (.int .i64 n0) (.string m0) (.slice a0 l0 p0) A) (HB : EvC w day a len cap (.int .i64 o1) (.int .i64 n1) (.string m1) (.slice a1 l1 p1) B) :
    Calls Try.prog 60 #[.agg #[.int .i64 day, .slice a len cap], .agg #[.int .i64 op, .int .i64 n, .string nm, .slice (some ⟨b, o, none⟩) 2 cap']] w fun x w' => RetV (bothV (decide (op = 18)) A B) x ∧ Below w.heap.size w w' := by
  have ST := Lib.hid (EvSt.start w day a len cap op n nm (some ⟨b, o, none⟩) 2 cap')
  have h0' : ∀ W, Below w.heap.size w W → Four W b o (.int .i64 o0) (.int .i64 n0) (.string m0) (.slice a0 l0 p0) := fun W hW => ⟨cell_up h0.1 hW, cell_up h0.2.1 hW, cell_up h0.2.2.1 hW, cell_up h0.2.2.2 hW⟩
  have h1' : ∀ W, Below w.heap.size w W → Four W b (o + 4) (.int .i64 o1) (.int .i64 n1) (.string m1) (.slice a1 l1 p1) := fun W hW => ⟨cell_up h1.1 hW, cell_up h1.2.1 hW, cell_up h1.2.2.1 hW, cell_up h1.2.2.2 hW⟩
  have HBO := Lib.hid (fun (s : Bool) W (hW : Below w.heap.size w W) => both_any s day a len cap op n nm b o cap' o0 n0 o1 n1 m0 m1 a0 a1 l0 p0 l1 p1 A B W (h0' W hW) (h1' W hW) (fun V hV => HA V (hW.trans (hV.mono hW.size))) (fun V hV => HB V (hW.trans (hV.mono hW.size))))
  clear h0 h1 h0' h1' HA HB
  rcases hop with rfl | rfl
  · have HR : Hid (bothV false A B = bothV (decide ((17 : Int) = 18)) A B) := by rfl
    obtain ⟨R, hR⟩ : ∃ R, R = bothV (decide ((17 : Int) = 18)) A B := ⟨_, rfl⟩
    rw [← hR] at HR ⊢
    clear hR
    go_enter Try.func60, Try.ntmps60
    go_upto_region 1 with (fail)
    generalize ((w.alloc (.cells #[.int .i64 day, .slice a len cap] 44)).alloc (.cells #[.int .i64 17, .int .i64 n, .string nm, .slice (some ⟨b, o, none⟩) 2 cap'] 53)).alloc (.cells #[.int .i64 0, .int .i64 0, .bool false] 98) = v at *
    obtain ⟨e0, e1, -, -⟩ := ST.out.env.two
    obtain ⟨x0, x1, x2, x3, -, -, -, -⟩ := blk4 ST.out.ex
    go_wp2_with fail
    go_at_call 72
    (with_reducible refine (HBO.out false v ST.out.below).mono ?_)
    rintro y w2 ⟨hy, b2⟩
    rw [HR.out] at hy
    clear HR HBO
    unfold RetV at hy
    subst hy
    have HP : Hid (RetV R (.returned (.agg #[.int .i64 R.K, .int .i64 R.N, .bool R.B]))) := rfl
    have ST2 := Lib.hid (ST.out.up b2)
    clear b2
    generalize R.K = rk at *
    generalize R.N = rn at *
    generalize R.B = rb at *
    try clear e0 e1 x0 x1 x2 x3
    have HFN := Lib.hid (ret3 (.int .i64 rk) (.int .i64 rn) (.bool rb) ST2.out.below (by omega : w.heap.size ≤ w.heap.size + 1 + 1) ST2.out.res)
    obtain ⟨q0, q1, q2, q3, q4, q5⟩ := blk3 ST2.out.res
    have hm := ST2.out.lt
    go_wp2_with fail
    generalize ((w2.setCell ⟨w.heap.size + 1 + 1, 0, none⟩ (.int .i64 rk)).setCell ⟨w.heap.size + 1 + 1, 1, none⟩ (.int .i64 rn)).setCell ⟨w.heap.size + 1 + 1, 2, none⟩ (.bool rb) = W9 at *
    obtain ⟨r0, r1, r2, -, -, -⟩ := blk3 HFN.out.2
    refine bodyPost_ret (v := .agg #[.int .i64 rk, .int .i64 rn, .bool rb]) (by simp [results, Try.results60, go_sem, r0, r1, r2]) rfl ⟨HP.out, HFN.out.1⟩
  · have HR : Hid (bothV true A B = bothV (decide ((18 : Int) = 18)) A B) := by rfl
    obtain ⟨R, hR⟩ : ∃ R, R = bothV (decide ((18 : Int) = 18)) A B := ⟨_, rfl⟩
    rw [← hR] at HR ⊢
    clear hR
    go_enter Try.func60, Try.ntmps60
    go_upto_region 1 with (fail)
    generalize ((w.alloc (.cells #[.int .i64 day, .slice a len cap] 44)).alloc (.cells #[.int .i64 18, .int .i64 n, .string nm, .slice (some ⟨b, o, none⟩) 2 cap'] 53)).alloc (.cells #[.int .i64 0, .int .i64 0, .bool false] 98) = v at *
    obtain ⟨e0, e1, -, -⟩ := ST.out.env.two
    obtain ⟨x0, x1, x2, x3, -, -, -, -⟩ := blk4 ST.out.ex
    go_wp2_with fail
    go_at_call 72
    (with_reducible refine (HBO.out true v ST.out.below).mono ?_)
    rintro y w2 ⟨hy, b2⟩
    rw [HR.out] at hy
    clear HR HBO
    unfold RetV at hy
    subst hy
    have HP : Hid (RetV R (.returned (.agg #[.int .i64 R.K, .int .i64 R.N, .bool R.B]))) := rfl
    have ST2 := Lib.hid (ST.out.up b2)
    clear b2
    generalize R.K = rk at *
    generalize R.N = rn at *
    generalize R.B = rb at *
    try clear e0 e1 x0 x1 x2 x3
    have HFN := Lib.hid (ret3 (.int .i64 rk) (.int .i64 rn) (.bool rb) ST2.out.below (by omega : w.heap.size ≤ w.heap.size + 1 + 1) ST2.out.res)
    obtain ⟨q0, q1, q2, q3, q4, q5⟩ := blk3 ST2.out.res
    have hm := ST2.out.lt
    go_wp2_with fail
    generalize ((w2.setCell ⟨w.heap.size + 1 + 1, 0, none⟩ (.int .i64 rk)).setCell ⟨w.heap.size + 1 + 1, 1, none⟩ (.int .i64 rn)).setCell ⟨w.heap.size + 1 + 1, 2, none⟩ (.bool rb) = W9 at *
    obtain ⟨r0, r1, r2, -, -, -⟩ := blk3 HFN.out.2
    refine bodyPost_ret (v := .agg #[.int .i64 rk, .int .i64 rn, .bool rb]) (by simp [results, Try.results60, go_sem, r0, r1, r2]) rfl ⟨HP.out, HFN.out.1⟩
set_option maxRecDepth 100000 in
set_option maxHeartbeats 4000000 in
theorem ev_not (w : World) (day : Int) (a : Option Addr) (len cap : Nat) (n : Int) (nm : ByteArray) (b o cap' : Nat) (o0 n0 : Int) (m0 : ByteArray) (a0 : Option Addr) (l0 p0 : Nat) (A : Vl) (hA : Ty 2 A)
    (h0 : Four w b o (.int .i64 o0) (.int .i64 n0) (.string m0) (.slice a0 l0 p0)) (HA : EvC w day a len cap (.int .i64 o0) (.int .i64 n0) (.string m0) (.slice a0 l0 p0) A) :
    Calls Try.prog 60 #[.agg #[.int .i64 day, .slice a len cap], .agg #[.int .i64 19, .int .i64 n, .string nm, .slice (some ⟨b, o, none⟩) 1 cap']] w fun x w' => RetV (opV 19 [A]) x ∧ Below w.heap.size w w' := by
  have H0 := Lib.hid h0
  have HCA := Lib.hid HA
  have HTA := Lib.hid hA.of2
  have ST := Lib.hid (EvSt.start w day a len cap 19 n nm (some ⟨b, o, none⟩) 1 cap')
  have HR : Hid (opV 19 [A] = opV 19 [A]) := rfl
  obtain ⟨R, hR⟩ : ∃ R, R = opV 19 [A] := ⟨_, rfl⟩
  rw [← hR]
  replace HR := Lib.hid hR
  clear hR h0 HA hA
  go_enter Try.func60, Try.ntmps60
  go_upto_region 1 with (fail)
  generalize ((w.alloc (.cells #[.int .i64 day, .slice a len cap] 44)).alloc (.cells #[.int .i64 19, .int .i64 n, .string nm, .slice (some ⟨b, o, none⟩) 1 cap'] 53)).alloc (.cells #[.int .i64 0, .int .i64 0, .bool false] 98) = v at *
  obtain ⟨e0, e1, -, -⟩ := ST.out.env.two
  obtain ⟨x0, x1, x2, x3, -, -, -, -⟩ := blk4 ST.out.ex
  go_upto_region 15 with (fail)
  clear e0 e1 x0 x1 x2 x3
  go_cut [7] (fun p W0 => ∃ g, p = .pointer (some ⟨g, 0, none⟩) ∧ Hid (EvSt w W0 day a len cap 19 n nm (some ⟨b, o, none⟩) 1 cap') ∧ Hid (EvV w W0 g A))
  case first =>
    obtain ⟨e0, e1, -, -⟩ := ST.out.env.two
    have x3 : v.cell? ⟨w.heap.size + 1, 3, none⟩ = _ := ST.out.ex.cell 3
    simp only [List.getElem?_toArray, List.getElem?_cons_zero, List.getElem?_cons_succ] at x3
    obtain ⟨u0, u1, u2, u3⟩ := H0.out
    replace u0 := cell_up u0 ST.out.below
    replace u1 := cell_up u1 ST.out.below
    replace u2 := cell_up u2 ST.out.below
    replace u3 := cell_up u3 ST.out.below
    refine wp_region_till (S := fun W => (W.cell? ⟨w.heap.size, 0, none⟩ = some (.int .i64 day) ∧ W.cell? ⟨w.heap.size, 1, none⟩ = some (.slice a len cap)) ∧ W.cell? ⟨w.heap.size + 1, 3, none⟩ = some (.slice (some ⟨b, o, none⟩) 1 cap') ∧ W.cell? ⟨b, o, none⟩ = some (.int .i64 o0) ∧ W.cell? ⟨b, o + 1, none⟩ = some (.int .i64 n0) ∧ W.cell? ⟨b, o + 2, none⟩ = some (.string m0) ∧ W.cell? ⟨b, o + 3, none⟩ = some (.slice a0 l0 p0)) 7 (by kernel_rfl) ?_
    refine till_take (i := 0) (v := ?_) rfl (by kernel_rfl) (fun _ _ _ h => h) (Or.inl ⟨by rfl, ?_⟩) ⟨⟨e0,e1⟩,x3,u0,u1,u2,u3⟩ ?_
    rotate_left
    · intro W hS
      try dsimp only at hS
      go_split_ands
      go_simp
      try with_reducible rfl
    try simp only [Act.put, List.getElem_toArray, List.getElem_cons_zero, List.getElem_cons_succ, List.setIfInBounds_toArray, List.set_cons_zero, List.set_cons_succ]
    refine till_take (i := 1) (v := ?_) rfl (by kernel_rfl) (fun _ _ _ h => h) (Or.inl ⟨by rfl, ?_⟩) ⟨⟨e0,e1⟩,x3,u0,u1,u2,u3⟩ ?_
    rotate_left
    · intro W hS
      try dsimp only at hS
      go_split_ands
      go_simp
      try with_reducible rfl
    try simp only [Act.put, List.getElem_toArray, List.getElem_cons_zero, List.getElem_cons_succ, List.setIfInBounds_toArray, List.set_cons_zero, List.set_cons_succ]
    refine till_take (i := 2) (v := ?_) rfl (by kernel_rfl) (fun _ _ _ h => h) (Or.inl ⟨by rfl, ?_⟩) ⟨⟨e0,e1⟩,x3,u0,u1,u2,u3⟩ ?_
    rotate_left
    · intro W hS
      try dsimp only at hS
      go_split_ands
      go_simp
      try with_reducible rfl
    try simp only [Act.put, List.getElem_toArray, List.getElem_cons_zero, List.getElem_cons_succ, List.setIfInBounds_toArray, List.set_cons_zero, List.set_cons_succ]
    refine till_take (i := 3) (v := ?_) rfl (by kernel_rfl) (fun _ _ _ h => h) (Or.inl ⟨by rfl, ?_⟩) ⟨⟨e0,e1⟩,x3,u0,u1,u2,u3⟩ ?_
    rotate_left
    · intro W hS
      try dsimp only at hS
      go_split_ands
      go_simp
      try with_reducible rfl
    try simp only [Act.put, List.getElem_toArray, List.getElem_cons_zero, List.getElem_cons_succ, List.setIfInBounds_toArray, List.set_cons_zero, List.set_cons_succ]
    refine till_take (i := 4) (v := ?_) rfl (by kernel_rfl) (fun _ _ _ h => h) (Or.inl ⟨by rfl, ?_⟩) ⟨⟨e0,e1⟩,x3,u0,u1,u2,u3⟩ ?_
    rotate_left
    · intro W hS
      try dsimp only at hS
      go_split_ands
      go_simp
      try with_reducible rfl
    try simp only [Act.put, List.getElem_toArray, List.getElem_cons_zero, List.getElem_cons_succ, List.setIfInBounds_toArray, List.set_cons_zero, List.set_cons_succ]
    refine till_two (i := 5) (j := 6) (by kernel_rfl) rfl rfl (fun K' hK => ?_) (fun K' hK => ?_)
    · go_simp
      go_at_call 60
      (with_reducible refine (EvC.run HCA.out _ ST.out.below.drew).mono ?_)
      rintro y w1 ⟨hy, b1⟩
      unfold RetV at hy
      subst hy
      have hd := (Below.refl v.heap.size v).drew
      have ST1 := Lib.hid ((ST.out.up hd).up b1)
      have bt := hd.trans (b1.mono hd.size)
      have GG := Lib.hid (True.intro)
      replace e0 := cell_up e0 bt
      replace e1 := cell_up e1 bt
      replace x3 := cell_up x3 bt
      replace u0 := cell_up u0 bt
      replace u1 := cell_up u1 bt
      replace u2 := cell_up u2 bt
      replace u3 := cell_up u3 bt
      refine hK _ _ ⟨⟨e0,e1⟩,x3,u0,u1,u2,u3⟩ ?_
      clear hK K' b1 hd bt
      try simp only [Act.put, List.getElem_toArray, List.getElem_cons_zero, List.getElem_cons_succ, List.setIfInBounds_toArray, List.set_cons_zero, List.set_cons_succ]
      refine till_one (i := 6) (by kernel_rfl) rfl (fun K' hK => ?_)
      go_simp
      have bn := (Below.refl w1.heap.size w1).alloc (Nat.le_refl _) (.cells #[.int .i64 0, .int .i64 0, .bool false] 98)
      have ST2 := Lib.hid (ST1.out.up bn)
      have BZ := Lib.hid (Mem.Blk.new w1 98 #[.int .i64 0, .int .i64 0, .bool false])
      have HZ := Lib.hid ST1.out.lt
      have HP := Lib.hid (True.intro)
      refine hK _ _ ⟨⟨cell_up e0 bn, cell_up e1 bn⟩, cell_up x3 bn, cell_up u0 bn, cell_up u1 bn, cell_up u2 bn, cell_up u3 bn⟩ ?_
      clear hK K' bn ST1 e0 e1 x3 u0 u1 u2 u3 GG
      generalize w1.alloc (.cells #[.int .i64 0, .int .i64 0, .bool false] 98) = w2 at *
      generalize w1.heap.size = z at *
      try simp only [Act.put, List.getElem_toArray, List.getElem_cons_zero, List.getElem_cons_succ, List.setIfInBounds_toArray, List.set_cons_zero, List.set_cons_succ]
      obtain ⟨t0, t1, t2, t3, t4, t5⟩ := blk3 BZ.out
      have hm := BZ.out.lt
      refine till_last (by kernel_rfl) rfl (by kernel_rfl) (fun K' hK => ?_)
      go_simp
      have HS9 := Lib.hid (ST2.out.far3 HZ.out (.int .i64 A.K) (.int .i64 A.N) (.bool A.B))
      have HV9 := Lib.hid (EvV.mk (v := A) HZ.out (((BZ.out.set_ 0 (.int .i64 A.K)).set_ 1 (.int .i64 A.N)).set_ 2 (.bool A.B)))
      refine hK _ _ ?_
      clear hK K'
      try simp only [Act.put, List.getElem_toArray, List.getElem_cons_zero, List.getElem_cons_succ, List.setIfInBounds_toArray, List.set_cons_zero, List.set_cons_succ]
      refine wpAny_done (by kernel_rfl) ?_ _
      go_wp2_with fail
      go_meet
      case rel => exact ⟨z, rfl, HS9.out, HV9.out⟩
    · go_simp
      have bn := below_new v (.cells #[.int .i64 0, .int .i64 0, .bool false] 98)
      have ST1 := Lib.hid (ST.out.up bn)
      have BZ1 := Lib.hid (Mem.Blk.new v 98 #[.int .i64 0, .int .i64 0, .bool false]).drew
      have HZ := Lib.hid ST.out.lt
      have HQ := Lib.hid (True.intro)
      replace e0 := cell_up e0 bn
      replace e1 := cell_up e1 bn
      replace x3 := cell_up x3 bn
      replace u0 := cell_up u0 bn
      replace u1 := cell_up u1 bn
      replace u2 := cell_up u2 bn
      replace u3 := cell_up u3 bn
      refine hK _ _ ⟨⟨e0,e1⟩,x3,u0,u1,u2,u3⟩ ?_
      clear hK K' bn
      generalize (v.alloc (.cells #[.int .i64 0, .int .i64 0, .bool false] 98)).drew = w1 at *
      generalize v.heap.size = z at *
      try simp only [Act.put, List.getElem_toArray, List.getElem_cons_zero, List.getElem_cons_succ, List.setIfInBounds_toArray, List.set_cons_zero, List.set_cons_succ]
      refine till_one (i := 5) (by kernel_rfl) rfl (fun K' hK => ?_)
      go_simp
      go_at_call 60
      (with_reducible refine (EvC.run HCA.out _ ST1.out.below).mono ?_)
      rintro y w2 ⟨hy, b1⟩
      unfold RetV at hy
      subst hy
      have ST2 := Lib.hid (ST1.out.up b1)
      have BZ := Lib.hid (BZ1.out.below b1)
      have HP := Lib.hid (True.intro)
      refine hK _ _ ⟨⟨cell_up e0 b1, cell_up e1 b1⟩, cell_up x3 b1, cell_up u0 b1, cell_up u1 b1, cell_up u2 b1, cell_up u3 b1⟩ ?_
      clear hK K' b1 ST1 BZ1 e0 e1 x3 u0 u1 u2 u3 HQ
      try simp only [Act.put, List.getElem_toArray, List.getElem_cons_zero, List.getElem_cons_succ, List.setIfInBounds_toArray, List.set_cons_zero, List.set_cons_succ]
      obtain ⟨t0, t1, t2, t3, t4, t5⟩ := blk3 BZ.out
      have hm := BZ.out.lt
      refine till_last (by kernel_rfl) rfl (by kernel_rfl) (fun K' hK => ?_)
      go_simp
      have HS9 := Lib.hid (ST2.out.far3 HZ.out (.int .i64 A.K) (.int .i64 A.N) (.bool A.B))
      have HV9 := Lib.hid (EvV.mk (v := A) HZ.out (((BZ.out.set_ 0 (.int .i64 A.K)).set_ 1 (.int .i64 A.N)).set_ 2 (.bool A.B)))
      refine hK _ _ ?_
      clear hK K'
      try simp only [Act.put, List.getElem_toArray, List.getElem_cons_zero, List.getElem_cons_succ, List.setIfInBounds_toArray, List.set_cons_zero, List.set_cons_succ]
      refine wpAny_done (by kernel_rfl) ?_ _
      go_wp2_with fail
      go_meet
      case rel => exact ⟨z, rfl, HS9.out, HV9.out⟩
  obtain ⟨g, rfl, ST0, VA⟩ := hcut
  obtain ⟨W0, rfl⟩ : ∃ W : World, W = wc := ⟨_, rfl⟩
  clear ST
  rcases HTA.out with rfl | rfl | ⟨t, rfl⟩
  · obtain rfl : R = .unk := HR.out
    have t0 : W0.cell? ⟨g, 0, none⟩ = some (.int .i64 0) := VA.out.blk.cell 0
    have t1 : W0.cell? ⟨g, 1, none⟩ = some (.int .i64 0) := VA.out.blk.cell 1
    have t2 : W0.cell? ⟨g, 2, none⟩ = some (.bool false) := VA.out.blk.cell 2
    obtain ⟨e0, e1, -, -⟩ := ST0.out.env.two
    obtain ⟨x0, x1, x2, x3, -, -, -, -⟩ := blk4 ST0.out.ex
    have HFN := Lib.hid (ret3 (.int .i64 0) (.int .i64 0) (.bool false) ST0.out.below (by omega : w.heap.size ≤ w.heap.size + 1 + 1) ST0.out.res)
    obtain ⟨q0, q1, q2, q3, q4, q5⟩ := blk3 ST0.out.res
    have hm := ST0.out.lt
    go_wp2_with fail
    generalize ((W0.setCell ⟨w.heap.size + 1 + 1, 0, none⟩ (.int .i64 0)).setCell ⟨w.heap.size + 1 + 1, 1, none⟩ (.int .i64 0)).setCell ⟨w.heap.size + 1 + 1, 2, none⟩ (.bool false) = W9 at *
    obtain ⟨r0, r1, r2, -, -, -⟩ := blk3 HFN.out.2
    refine bodyPost_ret (v := .agg #[.int .i64 0, .int .i64 0, .bool false]) (by simp [results, Try.results60, go_sem, r0, r1, r2]) rfl ⟨rfl, HFN.out.1⟩
  · obtain rfl : R = .brk := HR.out
    have t0 : W0.cell? ⟨g, 0, none⟩ = some (.int .i64 3) := VA.out.blk.cell 0
    have t1 : W0.cell? ⟨g, 1, none⟩ = some (.int .i64 0) := VA.out.blk.cell 1
    have t2 : W0.cell? ⟨g, 2, none⟩ = some (.bool false) := VA.out.blk.cell 2
    obtain ⟨e0, e1, -, -⟩ := ST0.out.env.two
    obtain ⟨x0, x1, x2, x3, -, -, -, -⟩ := blk4 ST0.out.ex
    have HFN := Lib.hid (ret3 (.int .i64 3) (.int .i64 0) (.bool false) ST0.out.below (by omega : w.heap.size ≤ w.heap.size + 1 + 1) ST0.out.res)
    obtain ⟨q0, q1, q2, q3, q4, q5⟩ := blk3 ST0.out.res
    have hm := ST0.out.lt
    go_wp2_with fail
    generalize ((W0.setCell ⟨w.heap.size + 1 + 1, 0, none⟩ (.int .i64 3)).setCell ⟨w.heap.size + 1 + 1, 1, none⟩ (.int .i64 0)).setCell ⟨w.heap.size + 1 + 1, 2, none⟩ (.bool false) = W9 at *
    obtain ⟨r0, r1, r2, -, -, -⟩ := blk3 HFN.out.2
    refine bodyPost_ret (v := .agg #[.int .i64 3, .int .i64 0, .bool false]) (by simp [results, Try.results60, go_sem, r0, r1, r2]) rfl ⟨rfl, HFN.out.1⟩
  · have HR2 : Hid (Vl.tru (!t) = R) := HR.out.symm
    have t0 : W0.cell? ⟨g, 0, none⟩ = some (.int .i64 2) := VA.out.blk.cell 0
    have t1 : W0.cell? ⟨g, 1, none⟩ = some (.int .i64 0) := VA.out.blk.cell 1
    have t2 : W0.cell? ⟨g, 2, none⟩ = some (.bool t) := VA.out.blk.cell 2
    obtain ⟨e0, e1, -, -⟩ := ST0.out.env.two
    obtain ⟨x0, x1, x2, x3, -, -, -, -⟩ := blk4 ST0.out.ex
    clear HR
    go_wp2_with fail
    clear t0 t1 t2
    go_at_call 73
    (with_reducible refine (truth_any _ _).mono ?_)
    rintro y w2 ⟨hy, b2⟩
    rw [HR2.out] at hy
    clear HR2
    unfold RetV at hy
    subst hy
    have HP : Hid (RetV R (.returned (.agg #[.int .i64 R.K, .int .i64 R.N, .bool R.B]))) := rfl
    have ST2 := Lib.hid (ST0.out.up b2)
    clear b2
    generalize R.K = rk at *
    generalize R.N = rn at *
    generalize R.B = rb at *
    try clear e0 e1 x0 x1 x2 x3
    have HFN := Lib.hid (ret3 (.int .i64 rk) (.int .i64 rn) (.bool rb) ST2.out.below (by omega : w.heap.size ≤ w.heap.size + 1 + 1) ST2.out.res)
    obtain ⟨q0, q1, q2, q3, q4, q5⟩ := blk3 ST2.out.res
    have hm := ST2.out.lt
    go_wp2_with fail
    generalize ((w2.setCell ⟨w.heap.size + 1 + 1, 0, none⟩ (.int .i64 rk)).setCell ⟨w.heap.size + 1 + 1, 1, none⟩ (.int .i64 rn)).setCell ⟨w.heap.size + 1 + 1, 2, none⟩ (.bool rb) = W9 at *
    obtain ⟨r0, r1, r2, -, -, -⟩ := blk3 HFN.out.2
    refine bodyPost_ret (v := .agg #[.int .i64 rk, .int .i64 rn, .bool rb]) (by simp [results, Try.results60, go_sem, r0, r1, r2]) rfl ⟨HP.out, HFN.out.1⟩
set_option maxRecDepth 100000 in
set_option maxHeartbeats 4000000 in
theorem ev_neg (w : World) (day : Int) (a : Option Addr) (len cap : Nat) (n : Int) (nm : ByteArray) (b o cap' : Nat) (o0 n0 : Int) (m0 : ByteArray) (a0 : Option Addr) (l0 p0 : Nat) (A : Vl) (hA : Ty 1 A) (hI : I64 A.N)
    (h0 : Four w b o (.int .i64 o0) (.int .i64 n0) (.string m0) (.slice a0 l0 p0)) (HA : EvC w day a len cap (.int .i64 o0) (.int .i64 n0) (.string m0) (.slice a0 l0 p0) A) :
    Calls Try.prog 60 #[.agg #[.int .i64 day, .slice a len cap], .agg #[.int .i64 20, .int .i64 n, .string nm, .slice (some ⟨b, o, none⟩) 1 cap']] w fun x w' => RetV (opV 20 [A]) x ∧ Below w.heap.size w w' := by
  have H0 := Lib.hid h0
  have HCA := Lib.hid HA
  have HTA := Lib.hid hA.of1
  have HIA := Lib.hid hI
  have ST := Lib.hid (EvSt.start w day a len cap 20 n nm (some ⟨b, o, none⟩) 1 cap')
  have HR : Hid (opV 20 [A] = opV 20 [A]) := rfl
  obtain ⟨R, hR⟩ : ∃ R, R = opV 20 [A] := ⟨_, rfl⟩
  rw [← hR]
  replace HR := Lib.hid hR
  clear hR h0 HA hA hI
  go_enter Try.func60, Try.ntmps60
  go_upto_region 1 with (fail)
  generalize ((w.alloc (.cells #[.int .i64 day, .slice a len cap] 44)).alloc (.cells #[.int .i64 20, .int .i64 n, .string nm, .slice (some ⟨b, o, none⟩) 1 cap'] 53)).alloc (.cells #[.int .i64 0, .int .i64 0, .bool false] 98) = v at *
  obtain ⟨e0, e1, -, -⟩ := ST.out.env.two
  obtain ⟨x0, x1, x2, x3, -, -, -, -⟩ := blk4 ST.out.ex
  go_upto_region 15 with (fail)
  clear e0 e1 x0 x1 x2 x3
  go_cut [7] (fun p W0 => ∃ g, p = .pointer (some ⟨g, 0, none⟩) ∧ Hid (EvSt w W0 day a len cap 20 n nm (some ⟨b, o, none⟩) 1 cap') ∧ Hid (EvV w W0 g A))
  case first =>
    obtain ⟨e0, e1, -, -⟩ := ST.out.env.two
    have x3 : v.cell? ⟨w.heap.size + 1, 3, none⟩ = _ := ST.out.ex.cell 3
    simp only [List.getElem?_toArray, List.getElem?_cons_zero, List.getElem?_cons_succ] at x3
    obtain ⟨u0, u1, u2, u3⟩ := H0.out
    replace u0 := cell_up u0 ST.out.below
    replace u1 := cell_up u1 ST.out.below
    replace u2 := cell_up u2 ST.out.below
    replace u3 := cell_up u3 ST.out.below
    refine wp_region_till (S := fun W => (W.cell? ⟨w.heap.size, 0, none⟩ = some (.int .i64 day) ∧ W.cell? ⟨w.heap.size, 1, none⟩ = some (.slice a len cap)) ∧ W.cell? ⟨w.heap.size + 1, 3, none⟩ = some (.slice (some ⟨b, o, none⟩) 1 cap') ∧ W.cell? ⟨b, o, none⟩ = some (.int .i64 o0) ∧ W.cell? ⟨b, o + 1, none⟩ = some (.int .i64 n0) ∧ W.cell? ⟨b, o + 2, none⟩ = some (.string m0) ∧ W.cell? ⟨b, o + 3, none⟩ = some (.slice a0 l0 p0)) 7 (by kernel_rfl) ?_
    refine till_take (i := 0) (v := ?_) rfl (by kernel_rfl) (fun _ _ _ h => h) (Or.inl ⟨by rfl, ?_⟩) ⟨⟨e0,e1⟩,x3,u0,u1,u2,u3⟩ ?_
    rotate_left
    · intro W hS
      try dsimp only at hS
      go_split_ands
      go_simp
      try with_reducible rfl
    try simp only [Act.put, List.getElem_toArray, List.getElem_cons_zero, List.getElem_cons_succ, List.setIfInBounds_toArray, List.set_cons_zero, List.set_cons_succ]
    refine till_take (i := 1) (v := ?_) rfl (by kernel_rfl) (fun _ _ _ h => h) (Or.inl ⟨by rfl, ?_⟩) ⟨⟨e0,e1⟩,x3,u0,u1,u2,u3⟩ ?_
    rotate_left
    · intro W hS
      try dsimp only at hS
      go_split_ands
      go_simp
      try with_reducible rfl
    try simp only [Act.put, List.getElem_toArray, List.getElem_cons_zero, List.getElem_cons_succ, List.setIfInBounds_toArray, List.set_cons_zero, List.set_cons_succ]
    refine till_take (i := 2) (v := ?_) rfl (by kernel_rfl) (fun _ _ _ h => h) (Or.inl ⟨by rfl, ?_⟩) ⟨⟨e0,e1⟩,x3,u0,u1,u2,u3⟩ ?_
    rotate_left
    · intro W hS
      try dsimp only at hS
      go_split_ands
      go_simp
      try with_reducible rfl
    try simp only [Act.put, List.getElem_toArray, List.getElem_cons_zero, List.getElem_cons_succ, List.setIfInBounds_toArray, List.set_cons_zero, List.set_cons_succ]
    refine till_take (i := 3) (v := ?_) rfl (by kernel_rfl) (fun _ _ _ h => h) (Or.inl ⟨by rfl, ?_⟩) ⟨⟨e0,e1⟩,x3,u0,u1,u2,u3⟩ ?_
    rotate_left
    · intro W hS
      try dsimp only at hS
      go_split_ands
      go_simp
      try with_reducible rfl
    try simp only [Act.put, List.getElem_toArray, List.getElem_cons_zero, List.getElem_cons_succ, List.setIfInBounds_toArray, List.set_cons_zero, List.set_cons_succ]
    refine till_take (i := 4) (v := ?_) rfl (by kernel_rfl) (fun _ _ _ h => h) (Or.inl ⟨by rfl, ?_⟩) ⟨⟨e0,e1⟩,x3,u0,u1,u2,u3⟩ ?_
    rotate_left
    · intro W hS
      try dsimp only at hS
      go_split_ands
      go_simp
      try with_reducible rfl
    try simp only [Act.put, List.getElem_toArray, List.getElem_cons_zero, List.getElem_cons_succ, List.setIfInBounds_toArray, List.set_cons_zero, List.set_cons_succ]
    refine till_two (i := 5) (j := 6) (by kernel_rfl) rfl rfl (fun K' hK => ?_) (fun K' hK => ?_)
    · go_simp
      go_at_call 60
      (with_reducible refine (EvC.run HCA.out _ ST.out.below.drew).mono ?_)
      rintro y w1 ⟨hy, b1⟩
      unfold RetV at hy
      subst hy
      have hd := (Below.refl v.heap.size v).drew
      have ST1 := Lib.hid ((ST.out.up hd).up b1)
      have bt := hd.trans (b1.mono hd.size)
      have GG := Lib.hid (True.intro)
      replace e0 := cell_up e0 bt
      replace e1 := cell_up e1 bt
      replace x3 := cell_up x3 bt
      replace u0 := cell_up u0 bt
      replace u1 := cell_up u1 bt
      replace u2 := cell_up u2 bt
      replace u3 := cell_up u3 bt
      refine hK _ _ ⟨⟨e0,e1⟩,x3,u0,u1,u2,u3⟩ ?_
      clear hK K' b1 hd bt
      try simp only [Act.put, List.getElem_toArray, List.getElem_cons_zero, List.getElem_cons_succ, List.setIfInBounds_toArray, List.set_cons_zero, List.set_cons_succ]
      refine till_one (i := 6) (by kernel_rfl) rfl (fun K' hK => ?_)
      go_simp
      have bn := (Below.refl w1.heap.size w1).alloc (Nat.le_refl _) (.cells #[.int .i64 0, .int .i64 0, .bool false] 98)
      have ST2 := Lib.hid (ST1.out.up bn)
      have BZ := Lib.hid (Mem.Blk.new w1 98 #[.int .i64 0, .int .i64 0, .bool false])
      have HZ := Lib.hid ST1.out.lt
      have HP := Lib.hid (True.intro)
      refine hK _ _ ⟨⟨cell_up e0 bn, cell_up e1 bn⟩, cell_up x3 bn, cell_up u0 bn, cell_up u1 bn, cell_up u2 bn, cell_up u3 bn⟩ ?_
      clear hK K' bn ST1 e0 e1 x3 u0 u1 u2 u3 GG
      generalize w1.alloc (.cells #[.int .i64 0, .int .i64 0, .bool false] 98) = w2 at *
      generalize w1.heap.size = z at *
      try simp only [Act.put, List.getElem_toArray, List.getElem_cons_zero, List.getElem_cons_succ, List.setIfInBounds_toArray, List.set_cons_zero, List.set_cons_succ]
      obtain ⟨t0, t1, t2, t3, t4, t5⟩ := blk3 BZ.out
      have hm := BZ.out.lt
      refine till_last (by kernel_rfl) rfl (by kernel_rfl) (fun K' hK => ?_)
      go_simp
      have HS9 := Lib.hid (ST2.out.far3 HZ.out (.int .i64 A.K) (.int .i64 A.N) (.bool A.B))
      have HV9 := Lib.hid (EvV.mk (v := A) HZ.out (((BZ.out.set_ 0 (.int .i64 A.K)).set_ 1 (.int .i64 A.N)).set_ 2 (.bool A.B)))
      refine hK _ _ ?_
      clear hK K'
      try simp only [Act.put, List.getElem_toArray, List.getElem_cons_zero, List.getElem_cons_succ, List.setIfInBounds_toArray, List.set_cons_zero, List.set_cons_succ]
      refine wpAny_done (by kernel_rfl) ?_ _
      go_wp2_with fail
      go_meet
      case rel => exact ⟨z, rfl, HS9.out, HV9.out⟩
    · go_simp
      have bn := below_new v (.cells #[.int .i64 0, .int .i64 0, .bool false] 98)
      have ST1 := Lib.hid (ST.out.up bn)
      have BZ1 := Lib.hid (Mem.Blk.new v 98 #[.int .i64 0, .int .i64 0, .bool false]).drew
      have HZ := Lib.hid ST.out.lt
      have HQ := Lib.hid (True.intro)
      replace e0 := cell_up e0 bn
      replace e1 := cell_up e1 bn
      replace x3 := cell_up x3 bn
      replace u0 := cell_up u0 bn
      replace u1 := cell_up u1 bn
      replace u2 := cell_up u2 bn
      replace u3 := cell_up u3 bn
      refine hK _ _ ⟨⟨e0,e1⟩,x3,u0,u1,u2,u3⟩ ?_
      clear hK K' bn
      generalize (v.alloc (.cells #[.int .i64 0, .int .i64 0, .bool false] 98)).drew = w1 at *
      generalize v.heap.size = z at *
      try simp only [Act.put, List.getElem_toArray, List.getElem_cons_zero, List.getElem_cons_succ, List.setIfInBounds_toArray, List.set_cons_zero, List.set_cons_succ]
      refine till_one (i := 5) (by kernel_rfl) rfl (fun K' hK => ?_)
      go_simp
      go_at_call 60
      (with_reducible refine (EvC.run HCA.out _ ST1.out.below).mono ?_)
      rintro y w2 ⟨hy, b1⟩
      unfold RetV at hy
      subst hy
      have ST2 := Lib.hid (ST1.out.up b1)
      have BZ := Lib.hid (BZ1.out.below b1)
      have HP := Lib.hid (True.intro)
      refine hK _ _ ⟨⟨cell_up e0 b1, cell_up e1 b1⟩, cell_up x3 b1, cell_up u0 b1, cell_up u1 b1, cell_up u2 b1, cell_up u3 b1⟩ ?_
      clear hK K' b1 ST1 BZ1 e0 e1 x3 u0 u1 u2 u3 HQ
      try simp only [Act.put, List.getElem_toArray, List.getElem_cons_zero, List.getElem_cons_succ, List.setIfInBounds_toArray, List.set_cons_zero, List.set_cons_succ]
      obtain ⟨t0, t1, t2, t3, t4, t5⟩ := blk3 BZ.out
      have hm := BZ.out.lt
      refine till_last (by kernel_rfl) rfl (by kernel_rfl) (fun K' hK => ?_)
      go_simp
      have HS9 := Lib.hid (ST2.out.far3 HZ.out (.int .i64 A.K) (.int .i64 A.N) (.bool A.B))
      have HV9 := Lib.hid (EvV.mk (v := A) HZ.out (((BZ.out.set_ 0 (.int .i64 A.K)).set_ 1 (.int .i64 A.N)).set_ 2 (.bool A.B)))
      refine hK _ _ ?_
      clear hK K'
      try simp only [Act.put, List.getElem_toArray, List.getElem_cons_zero, List.getElem_cons_succ, List.setIfInBounds_toArray, List.set_cons_zero, List.set_cons_succ]
      refine wpAny_done (by kernel_rfl) ?_ _
      go_wp2_with fail
      go_meet
      case rel => exact ⟨z, rfl, HS9.out, HV9.out⟩
  obtain ⟨g, rfl, ST0, VA⟩ := hcut
  obtain ⟨W0, rfl⟩ : ∃ W : World, W = wc := ⟨_, rfl⟩
  clear ST
  rcases HTA.out with rfl | rfl | ⟨t, rfl⟩
  · obtain rfl : R = .unk := HR.out
    have t0 : W0.cell? ⟨g, 0, none⟩ = some (.int .i64 0) := VA.out.blk.cell 0
    have t1 : W0.cell? ⟨g, 1, none⟩ = some (.int .i64 0) := VA.out.blk.cell 1
    have t2 : W0.cell? ⟨g, 2, none⟩ = some (.bool false) := VA.out.blk.cell 2
    obtain ⟨e0, e1, -, -⟩ := ST0.out.env.two
    obtain ⟨x0, x1, x2, x3, -, -, -, -⟩ := blk4 ST0.out.ex
    have HFN := Lib.hid (ret3 (.int .i64 0) (.int .i64 0) (.bool false) ST0.out.below (by omega : w.heap.size ≤ w.heap.size + 1 + 1) ST0.out.res)
    obtain ⟨q0, q1, q2, q3, q4, q5⟩ := blk3 ST0.out.res
    have hm := ST0.out.lt
    go_wp2_with fail
    generalize ((W0.setCell ⟨w.heap.size + 1 + 1, 0, none⟩ (.int .i64 0)).setCell ⟨w.heap.size + 1 + 1, 1, none⟩ (.int .i64 0)).setCell ⟨w.heap.size + 1 + 1, 2, none⟩ (.bool false) = W9 at *
    obtain ⟨r0, r1, r2, -, -, -⟩ := blk3 HFN.out.2
    refine bodyPost_ret (v := .agg #[.int .i64 0, .int .i64 0, .bool false]) (by simp [results, Try.results60, go_sem, r0, r1, r2]) rfl ⟨rfl, HFN.out.1⟩
  · obtain rfl : R = .brk := HR.out
    have t0 : W0.cell? ⟨g, 0, none⟩ = some (.int .i64 3) := VA.out.blk.cell 0
    have t1 : W0.cell? ⟨g, 1, none⟩ = some (.int .i64 0) := VA.out.blk.cell 1
    have t2 : W0.cell? ⟨g, 2, none⟩ = some (.bool false) := VA.out.blk.cell 2
    obtain ⟨e0, e1, -, -⟩ := ST0.out.env.two
    obtain ⟨x0, x1, x2, x3, -, -, -, -⟩ := blk4 ST0.out.ex
    have HFN := Lib.hid (ret3 (.int .i64 3) (.int .i64 0) (.bool false) ST0.out.below (by omega : w.heap.size ≤ w.heap.size + 1 + 1) ST0.out.res)
    obtain ⟨q0, q1, q2, q3, q4, q5⟩ := blk3 ST0.out.res
    have hm := ST0.out.lt
    go_wp2_with fail
    generalize ((W0.setCell ⟨w.heap.size + 1 + 1, 0, none⟩ (.int .i64 3)).setCell ⟨w.heap.size + 1 + 1, 1, none⟩ (.int .i64 0)).setCell ⟨w.heap.size + 1 + 1, 2, none⟩ (.bool false) = W9 at *
    obtain ⟨r0, r1, r2, -, -, -⟩ := blk3 HFN.out.2
    refine bodyPost_ret (v := .agg #[.int .i64 3, .int .i64 0, .bool false]) (by simp [results, Try.results60, go_sem, r0, r1, r2]) rfl ⟨rfl, HFN.out.1⟩
  · have HR2 : Hid (nmV (fitN (fitI (-t))) (fitB (fitI (-t))) = R) := by rw [HR.out, nmV_fit]; rfl
    have t0 : W0.cell? ⟨g, 0, none⟩ = some (.int .i64 1) := VA.out.blk.cell 0
    have t1 : W0.cell? ⟨g, 1, none⟩ = some (.int .i64 t) := VA.out.blk.cell 1
    have t2 : W0.cell? ⟨g, 2, none⟩ = some (.bool false) := VA.out.blk.cell 2
    obtain ⟨e0, e1, -, -⟩ := ST0.out.env.two
    obtain ⟨x0, x1, x2, x3, -, -, -, -⟩ := blk4 ST0.out.ex
    have HT : Hid (I64 t) := HIA.out
    clear HR HIA
    go_wp2_with fail
    go_at_call 40
    (with_reducible refine (numNeg_any _ _ HT.out).mono ?_)
    rintro y w2 ⟨rfl, rfl⟩
    clear t0 t1 t2 e0 e1 x0 x1 x2 x3
    unfold fitR
    generalize fitI (-t) = oo at *
    generalize fitN oo = n9 at *
    generalize fitB oo = b9 at *
    go_wp2_with fail
    go_at_call 70
    (with_reducible refine (number_any _ _ _).mono ?_)
    rintro y w2 ⟨hy, b2⟩
    rw [HR2.out] at hy
    clear HR2
    unfold RetV at hy
    subst hy
    have HP : Hid (RetV R (.returned (.agg #[.int .i64 R.K, .int .i64 R.N, .bool R.B]))) := rfl
    have ST2 := Lib.hid (ST0.out.up b2)
    clear b2
    generalize R.K = rk at *
    generalize R.N = rn at *
    generalize R.B = rb at *
    try clear e0 e1 x0 x1 x2 x3
    have HFN := Lib.hid (ret3 (.int .i64 rk) (.int .i64 rn) (.bool rb) ST2.out.below (by omega : w.heap.size ≤ w.heap.size + 1 + 1) ST2.out.res)
    obtain ⟨q0, q1, q2, q3, q4, q5⟩ := blk3 ST2.out.res
    have hm := ST2.out.lt
    go_wp2_with fail
    generalize ((w2.setCell ⟨w.heap.size + 1 + 1, 0, none⟩ (.int .i64 rk)).setCell ⟨w.heap.size + 1 + 1, 1, none⟩ (.int .i64 rn)).setCell ⟨w.heap.size + 1 + 1, 2, none⟩ (.bool rb) = W9 at *
    obtain ⟨r0, r1, r2, -, -, -⟩ := blk3 HFN.out.2
    refine bodyPost_ret (v := .agg #[.int .i64 rk, .int .i64 rn, .bool rb]) (by simp [results, Try.results60, go_sem, r0, r1, r2]) rfl ⟨HP.out, HFN.out.1⟩
set_option maxRecDepth 100000 in
set_option maxHeartbeats 4000000 in
theorem ev_if (w : World) (day : Int) (a : Option Addr) (len cap : Nat) (n : Int) (nm : ByteArray) (b o cap' : Nat) (o0 n0 o1 n1 o2 n2 : Int) (m0 m1 m2 : ByteArray) (a0 a1 a2 : Option Addr) (l0 p0 l1 p1 l2 p2 : Nat) (A B C : Vl) (hA : Ty 2 A)
    (h0 : Four w b o (.int .i64 o0) (.int .i64 n0) (.string m0) (.slice a0 l0 p0)) (h1 : Four w b (o + 4) (.int .i64 o1) (.int .i64 n1) (.string m1) (.slice a1 l1 p1)) (h2 : Four w b (o + 8) (.int .i64 o2) (.int .i64 n2) (.string m2) (.slice a2 l2 p2))
    (HA : EvC w day a len cap (.int .i64 o0) (.int .i64 n0) (.string m0) (.slice a0 l0 p0) A) (HB : EvC w day a len cap (.int .i64 o1) (.int .i64 n1) (.string m1) (.slice a1 l1 p1) B) (HC : EvC w day a len cap (.int .i64 o2) (.int .i64 n2) (.string m2) (.slice a2 l2 p2) C) :
    Calls Try.prog 60 #[.agg #[.int .i64 day, .slice a len cap], .agg #[.int .i64 21, .int .i64 n, .string nm, .slice (some ⟨b, o, none⟩) 3 cap']] w fun x w' => RetV (opV 21 [A, B, C]) x ∧ Below w.heap.size w w' := by
  have H0 := Lib.hid h0
  have H1 := Lib.hid h1
  have H2 := Lib.hid h2
  have HCA := Lib.hid HA
  have HCB := Lib.hid HB
  have HCC := Lib.hid HC
  have HTA := Lib.hid hA.of2
  have ST := Lib.hid (EvSt.start w day a len cap 21 n nm (some ⟨b, o, none⟩) 3 cap')
  have HR : Hid (opV 21 [A, B, C] = opV 21 [A, B, C]) := rfl
  obtain ⟨R, hR⟩ : ∃ R, R = opV 21 [A, B, C] := ⟨_, rfl⟩
  rw [← hR]
  replace HR := Lib.hid hR
  clear hR h0 h1 h2 HA HB HC hA
  go_enter Try.func60, Try.ntmps60
  go_upto_region 1 with (fail)
  generalize ((w.alloc (.cells #[.int .i64 day, .slice a len cap] 44)).alloc (.cells #[.int .i64 21, .int .i64 n, .string nm, .slice (some ⟨b, o, none⟩) 3 cap'] 53)).alloc (.cells #[.int .i64 0, .int .i64 0, .bool false] 98) = v at *
  obtain ⟨e0, e1, -, -⟩ := ST.out.env.two
  obtain ⟨x0, x1, x2, x3, -, -, -, -⟩ := blk4 ST.out.ex
  go_upto_region 15 with (fail)
  clear e0 e1 x0 x1 x2 x3
  go_cut [7] (fun p W0 => ∃ g, p = .pointer (some ⟨g, 0, none⟩) ∧ Hid (EvSt w W0 day a len cap 21 n nm (some ⟨b, o, none⟩) 3 cap') ∧ Hid (EvV w W0 g A))
  case first =>
    obtain ⟨e0, e1, -, -⟩ := ST.out.env.two
    have x3 : v.cell? ⟨w.heap.size + 1, 3, none⟩ = _ := ST.out.ex.cell 3
    simp only [List.getElem?_toArray, List.getElem?_cons_zero, List.getElem?_cons_succ] at x3
    obtain ⟨u0, u1, u2, u3⟩ := H0.out
    replace u0 := cell_up u0 ST.out.below
    replace u1 := cell_up u1 ST.out.below
    replace u2 := cell_up u2 ST.out.below
    replace u3 := cell_up u3 ST.out.below
    refine wp_region_till (S := fun W => (W.cell? ⟨w.heap.size, 0, none⟩ = some (.int .i64 day) ∧ W.cell? ⟨w.heap.size, 1, none⟩ = some (.slice a len cap)) ∧ W.cell? ⟨w.heap.size + 1, 3, none⟩ = some (.slice (some ⟨b, o, none⟩) 3 cap') ∧ W.cell? ⟨b, o, none⟩ = some (.int .i64 o0) ∧ W.cell? ⟨b, o + 1, none⟩ = some (.int .i64 n0) ∧ W.cell? ⟨b, o + 2, none⟩ = some (.string m0) ∧ W.cell? ⟨b, o + 3, none⟩ = some (.slice a0 l0 p0)) 7 (by kernel_rfl) ?_
    refine till_take (i := 0) (v := ?_) rfl (by kernel_rfl) (fun _ _ _ h => h) (Or.inl ⟨by rfl, ?_⟩) ⟨⟨e0,e1⟩,x3,u0,u1,u2,u3⟩ ?_
    rotate_left
    · intro W hS
      try dsimp only at hS
      go_split_ands
      go_simp
      try with_reducible rfl
    try simp only [Act.put, List.getElem_toArray, List.getElem_cons_zero, List.getElem_cons_succ, List.setIfInBounds_toArray, List.set_cons_zero, List.set_cons_succ]
    refine till_take (i := 1) (v := ?_) rfl (by kernel_rfl) (fun _ _ _ h => h) (Or.inl ⟨by rfl, ?_⟩) ⟨⟨e0,e1⟩,x3,u0,u1,u2,u3⟩ ?_
    rotate_left
    · intro W hS
      try dsimp only at hS
      go_split_ands
      go_simp
      try with_reducible rfl
    try simp only [Act.put, List.getElem_toArray, List.getElem_cons_zero, List.getElem_cons_succ, List.setIfInBounds_toArray, List.set_cons_zero, List.set_cons_succ]
    refine till_take (i := 2) (v := ?_) rfl (by kernel_rfl) (fun _ _ _ h => h) (Or.inl ⟨by rfl, ?_⟩) ⟨⟨e0,e1⟩,x3,u0,u1,u2,u3⟩ ?_
    rotate_left
    · intro W hS
      try dsimp only at hS
      go_split_ands
      go_simp
      try with_reducible rfl
    try simp only [Act.put, List.getElem_toArray, List.getElem_cons_zero, List.getElem_cons_succ, List.setIfInBounds_toArray, List.set_cons_zero, List.set_cons_succ]
    refine till_take (i := 3) (v := ?_) rfl (by kernel_rfl) (fun _ _ _ h => h) (Or.inl ⟨by rfl, ?_⟩) ⟨⟨e0,e1⟩,x3,u0,u1,u2,u3⟩ ?_
    rotate_left
    · intro W hS
      try dsimp only at hS
      go_split_ands
      go_simp
      try with_reducible rfl
    try simp only [Act.put, List.getElem_toArray, List.getElem_cons_zero, List.getElem_cons_succ, List.setIfInBounds_toArray, List.set_cons_zero, List.set_cons_succ]
    refine till_take (i := 4) (v := ?_) rfl (by kernel_rfl) (fun _ _ _ h => h) (Or.inl ⟨by rfl, ?_⟩) ⟨⟨e0,e1⟩,x3,u0,u1,u2,u3⟩ ?_
    rotate_left
    · intro W hS
      try dsimp only at hS
      go_split_ands
      go_simp
      try with_reducible rfl
    try simp only [Act.put, List.getElem_toArray, List.getElem_cons_zero, List.getElem_cons_succ, List.setIfInBounds_toArray, List.set_cons_zero, List.set_cons_succ]
    refine till_two (i := 5) (j := 6) (by kernel_rfl) rfl rfl (fun K' hK => ?_) (fun K' hK => ?_)
    · go_simp
      go_at_call 60
      (with_reducible refine (EvC.run HCA.out _ ST.out.below.drew).mono ?_)
      rintro y w1 ⟨hy, b1⟩
      unfold RetV at hy
      subst hy
      have hd := (Below.refl v.heap.size v).drew
      have ST1 := Lib.hid ((ST.out.up hd).up b1)
      have bt := hd.trans (b1.mono hd.size)
      have GG := Lib.hid (True.intro)
      replace e0 := cell_up e0 bt
      replace e1 := cell_up e1 bt
      replace x3 := cell_up x3 bt
      replace u0 := cell_up u0 bt
      replace u1 := cell_up u1 bt
      replace u2 := cell_up u2 bt
      replace u3 := cell_up u3 bt
      refine hK _ _ ⟨⟨e0,e1⟩,x3,u0,u1,u2,u3⟩ ?_
      clear hK K' b1 hd bt
      try simp only [Act.put, List.getElem_toArray, List.getElem_cons_zero, List.getElem_cons_succ, List.setIfInBounds_toArray, List.set_cons_zero, List.set_cons_succ]
      refine till_one (i := 6) (by kernel_rfl) rfl (fun K' hK => ?_)
      go_simp
      have bn := (Below.refl w1.heap.size w1).alloc (Nat.le_refl _) (.cells #[.int .i64 0, .int .i64 0, .bool false] 98)
      have ST2 := Lib.hid (ST1.out.up bn)
      have BZ := Lib.hid (Mem.Blk.new w1 98 #[.int .i64 0, .int .i64 0, .bool false])
      have HZ := Lib.hid ST1.out.lt
      have HP := Lib.hid (True.intro)
      refine hK _ _ ⟨⟨cell_up e0 bn, cell_up e1 bn⟩, cell_up x3 bn, cell_up u0 bn, cell_up u1 bn, cell_up u2 bn, cell_up u3 bn⟩ ?_
      clear hK K' bn ST1 e0 e1 x3 u0 u1 u2 u3 GG
      generalize w1.alloc (.cells #[.int .i64 0, .int .i64 0, .bool false] 98) = w2 at *
      generalize w1.heap.size = z at *
      try simp only [Act.put, List.getElem_toArray, List.getElem_cons_zero, List.getElem_cons_succ, List.setIfInBounds_toArray, List.set_cons_zero, List.set_cons_succ]
      obtain ⟨t0, t1, t2, t3, t4, t5⟩ := blk3 BZ.out
      have hm := BZ.out.lt
      refine till_last (by kernel_rfl) rfl (by kernel_rfl) (fun K' hK => ?_)
      go_simp
      have HS9 := Lib.hid (ST2.out.far3 HZ.out (.int .i64 A.K) (.int .i64 A.N) (.bool A.B))
      have HV9 := Lib.hid (EvV.mk (v := A) HZ.out (((BZ.out.set_ 0 (.int .i64 A.K)).set_ 1 (.int .i64 A.N)).set_ 2 (.bool A.B)))
      refine hK _ _ ?_
      clear hK K'
      try simp only [Act.put, List.getElem_toArray, List.getElem_cons_zero, List.getElem_cons_succ, List.setIfInBounds_toArray, List.set_cons_zero, List.set_cons_succ]
      refine wpAny_done (by kernel_rfl) ?_ _
      go_wp2_with fail
      go_meet
      case rel => exact ⟨z, rfl, HS9.out, HV9.out⟩
    · go_simp
      have bn := below_new v (.cells #[.int .i64 0, .int .i64 0, .bool false] 98)
      have ST1 := Lib.hid (ST.out.up bn)
      have BZ1 := Lib.hid (Mem.Blk.new v 98 #[.int .i64 0, .int .i64 0, .bool false]).drew
      have HZ := Lib.hid ST.out.lt
      have HQ := Lib.hid (True.intro)
      replace e0 := cell_up e0 bn
      replace e1 := cell_up e1 bn
      replace x3 := cell_up x3 bn
      replace u0 := cell_up u0 bn
      replace u1 := cell_up u1 bn
      replace u2 := cell_up u2 bn
      replace u3 := cell_up u3 bn
      refine hK _ _ ⟨⟨e0,e1⟩,x3,u0,u1,u2,u3⟩ ?_
      clear hK K' bn
      generalize (v.alloc (.cells #[.int .i64 0, .int .i64 0, .bool false] 98)).drew = w1 at *
      generalize v.heap.size = z at *
      try simp only [Act.put, List.getElem_toArray, List.getElem_cons_zero, List.getElem_cons_succ, List.setIfInBounds_toArray, List.set_cons_zero, List.set_cons_succ]
      refine till_one (i := 5) (by kernel_rfl) rfl (fun K' hK => ?_)
      go_simp
      go_at_call 60
      (with_reducible refine (EvC.run HCA.out _ ST1.out.below).mono ?_)
      rintro y w2 ⟨hy, b1⟩
      unfold RetV at hy
      subst hy
      have ST2 := Lib.hid (ST1.out.up b1)
      have BZ := Lib.hid (BZ1.out.below b1)
      have HP := Lib.hid (True.intro)
      refine hK _ _ ⟨⟨cell_up e0 b1, cell_up e1 b1⟩, cell_up x3 b1, cell_up u0 b1, cell_up u1 b1, cell_up u2 b1, cell_up u3 b1⟩ ?_
      clear hK K' b1 ST1 BZ1 e0 e1 x3 u0 u1 u2 u3 HQ
      try simp only [Act.put, List.getElem_toArray, List.getElem_cons_zero, List.getElem_cons_succ, List.setIfInBounds_toArray, List.set_cons_zero, List.set_cons_succ]
      obtain ⟨t0, t1, t2, t3, t4, t5⟩ := blk3 BZ.out
      have hm := BZ.out.lt
      refine till_last (by kernel_rfl) rfl (by kernel_rfl) (fun K' hK => ?_)
      go_simp
      have HS9 := Lib.hid (ST2.out.far3 HZ.out (.int .i64 A.K) (.int .i64 A.N) (.bool A.B))
      have HV9 := Lib.hid (EvV.mk (v := A) HZ.out (((BZ.out.set_ 0 (.int .i64 A.K)).set_ 1 (.int .i64 A.N)).set_ 2 (.bool A.B)))
      refine hK _ _ ?_
      clear hK K'
      try simp only [Act.put, List.getElem_toArray, List.getElem_cons_zero, List.getElem_cons_succ, List.setIfInBounds_toArray, List.set_cons_zero, List.set_cons_succ]
      refine wpAny_done (by kernel_rfl) ?_ _
      go_wp2_with fail
      go_meet
      case rel => exact ⟨z, rfl, HS9.out, HV9.out⟩
  obtain ⟨g, rfl, ST0, VA⟩ := hcut
  obtain ⟨W0, rfl⟩ : ∃ W : World, W = wc := ⟨_, rfl⟩
  clear ST
  rcases HTA.out with rfl | rfl | ⟨t, rfl⟩
  · obtain rfl : R = .unk := HR.out
    have t0 : W0.cell? ⟨g, 0, none⟩ = some (.int .i64 0) := VA.out.blk.cell 0
    have t1 : W0.cell? ⟨g, 1, none⟩ = some (.int .i64 0) := VA.out.blk.cell 1
    have t2 : W0.cell? ⟨g, 2, none⟩ = some (.bool false) := VA.out.blk.cell 2
    obtain ⟨e0, e1, -, -⟩ := ST0.out.env.two
    obtain ⟨x0, x1, x2, x3, -, -, -, -⟩ := blk4 ST0.out.ex
    have HFN := Lib.hid (ret3 (.int .i64 0) (.int .i64 0) (.bool false) ST0.out.below (by omega : w.heap.size ≤ w.heap.size + 1 + 1) ST0.out.res)
    obtain ⟨q0, q1, q2, q3, q4, q5⟩ := blk3 ST0.out.res
    have hm := ST0.out.lt
    go_wp2_with fail
    generalize ((W0.setCell ⟨w.heap.size + 1 + 1, 0, none⟩ (.int .i64 0)).setCell ⟨w.heap.size + 1 + 1, 1, none⟩ (.int .i64 0)).setCell ⟨w.heap.size + 1 + 1, 2, none⟩ (.bool false) = W9 at *
    obtain ⟨r0, r1, r2, -, -, -⟩ := blk3 HFN.out.2
    refine bodyPost_ret (v := .agg #[.int .i64 0, .int .i64 0, .bool false]) (by simp [results, Try.results60, go_sem, r0, r1, r2]) rfl ⟨rfl, HFN.out.1⟩
  · obtain rfl : R = .brk := HR.out
    have t0 : W0.cell? ⟨g, 0, none⟩ = some (.int .i64 3) := VA.out.blk.cell 0
    have t1 : W0.cell? ⟨g, 1, none⟩ = some (.int .i64 0) := VA.out.blk.cell 1
    have t2 : W0.cell? ⟨g, 2, none⟩ = some (.bool false) := VA.out.blk.cell 2
    obtain ⟨e0, e1, -, -⟩ := ST0.out.env.two
    obtain ⟨x0, x1, x2, x3, -, -, -, -⟩ := blk4 ST0.out.ex
    have HFN := Lib.hid (ret3 (.int .i64 3) (.int .i64 0) (.bool false) ST0.out.below (by omega : w.heap.size ≤ w.heap.size + 1 + 1) ST0.out.res)
    obtain ⟨q0, q1, q2, q3, q4, q5⟩ := blk3 ST0.out.res
    have hm := ST0.out.lt
    go_wp2_with fail
    generalize ((W0.setCell ⟨w.heap.size + 1 + 1, 0, none⟩ (.int .i64 3)).setCell ⟨w.heap.size + 1 + 1, 1, none⟩ (.int .i64 0)).setCell ⟨w.heap.size + 1 + 1, 2, none⟩ (.bool false) = W9 at *
    obtain ⟨r0, r1, r2, -, -, -⟩ := blk3 HFN.out.2
    refine bodyPost_ret (v := .agg #[.int .i64 3, .int .i64 0, .bool false]) (by simp [results, Try.results60, go_sem, r0, r1, r2]) rfl ⟨rfl, HFN.out.1⟩
  · cases t with
    | true =>
      obtain rfl : R = B := HR.out
      have t0 : W0.cell? ⟨g, 0, none⟩ = some (.int .i64 2) := VA.out.blk.cell 0
      have t1 : W0.cell? ⟨g, 1, none⟩ = some (.int .i64 0) := VA.out.blk.cell 1
      have t2 : W0.cell? ⟨g, 2, none⟩ = some (.bool true) := VA.out.blk.cell 2
      obtain ⟨e0, e1, -, -⟩ := ST0.out.env.two
      obtain ⟨x0, x1, x2, x3, -, -, -, -⟩ := blk4 ST0.out.ex
      go_wp2_with fail
      clear e0 e1 x0 x1 x2 x3 t0 t1 t2
      obtain ⟨e0, e1, -, -⟩ := ST0.out.env.two
      have x3 : W0.cell? ⟨w.heap.size + 1, 3, none⟩ = _ := ST0.out.ex.cell 3
      simp only [List.getElem?_toArray, List.getElem?_cons_zero, List.getElem?_cons_succ] at x3
      obtain ⟨u0, u1, u2, u3⟩ := H1.out
      replace u0 := cell_up u0 ST0.out.below
      replace u1 := cell_up u1 ST0.out.below
      replace u2 := cell_up u2 ST0.out.below
      replace u3 := cell_up u3 ST0.out.below
      refine wp_region_till (S := fun W => (W.cell? ⟨w.heap.size, 0, none⟩ = some (.int .i64 day) ∧ W.cell? ⟨w.heap.size, 1, none⟩ = some (.slice a len cap)) ∧ W.cell? ⟨w.heap.size + 1, 3, none⟩ = some (.slice (some ⟨b, o, none⟩) 3 cap') ∧ W.cell? ⟨b, o + 4, none⟩ = some (.int .i64 o1) ∧ W.cell? ⟨b, o + 4 + 1, none⟩ = some (.int .i64 n1) ∧ W.cell? ⟨b, o + 4 + 2, none⟩ = some (.string m1) ∧ W.cell? ⟨b, o + 4 + 3, none⟩ = some (.slice a1 l1 p1)) 6 (by kernel_rfl) ?_
      refine till_take (i := 0) (v := ?_) rfl (by kernel_rfl) (fun _ _ _ h => h) (Or.inl ⟨by rfl, ?_⟩) ⟨⟨e0,e1⟩,x3,u0,u1,u2,u3⟩ ?_
      rotate_left
      · intro W hS
        try dsimp only at hS
        go_split_ands
        go_simp
        try with_reducible rfl
      try simp only [Act.put, List.getElem_toArray, List.getElem_cons_zero, List.getElem_cons_succ, List.setIfInBounds_toArray, List.set_cons_zero, List.set_cons_succ]
      refine till_take (i := 1) (v := ?_) rfl (by kernel_rfl) (fun _ _ _ h => h) (Or.inl ⟨by rfl, ?_⟩) ⟨⟨e0,e1⟩,x3,u0,u1,u2,u3⟩ ?_
      rotate_left
      · intro W hS
        try dsimp only at hS
        go_split_ands
        go_simp
        try with_reducible rfl
      try simp only [Act.put, List.getElem_toArray, List.getElem_cons_zero, List.getElem_cons_succ, List.setIfInBounds_toArray, List.set_cons_zero, List.set_cons_succ]
      refine till_take (i := 2) (v := ?_) rfl (by kernel_rfl) (fun _ _ _ h => h) (Or.inl ⟨by rfl, ?_⟩) ⟨⟨e0,e1⟩,x3,u0,u1,u2,u3⟩ ?_
      rotate_left
      · intro W hS
        try dsimp only at hS
        go_split_ands
        go_simp
        try with_reducible rfl
      try simp only [Act.put, List.getElem_toArray, List.getElem_cons_zero, List.getElem_cons_succ, List.setIfInBounds_toArray, List.set_cons_zero, List.set_cons_succ]
      refine till_take (i := 3) (v := ?_) rfl (by kernel_rfl) (fun _ _ _ h => h) (Or.inl ⟨by rfl, ?_⟩) ⟨⟨e0,e1⟩,x3,u0,u1,u2,u3⟩ ?_
      rotate_left
      · intro W hS
        try dsimp only at hS
        go_split_ands
        go_simp
        try with_reducible rfl
      try simp only [Act.put, List.getElem_toArray, List.getElem_cons_zero, List.getElem_cons_succ, List.setIfInBounds_toArray, List.set_cons_zero, List.set_cons_succ]
      refine till_take (i := 4) (v := ?_) rfl (by kernel_rfl) (fun _ _ _ h => h) (Or.inl ⟨by rfl, ?_⟩) ⟨⟨e0,e1⟩,x3,u0,u1,u2,u3⟩ ?_
      rotate_left
      · intro W hS
        try dsimp only at hS
        go_split_ands
        go_simp
        try with_reducible rfl
      try simp only [Act.put, List.getElem_toArray, List.getElem_cons_zero, List.getElem_cons_succ, List.setIfInBounds_toArray, List.set_cons_zero, List.set_cons_succ]
      refine till_one (i := 5) (by kernel_rfl) rfl (fun K' hK => ?_)
      go_simp
      go_at_call 60
      (with_reducible refine (EvC.run HCB.out _ ST0.out.below.drew).mono ?_)
      rintro y w2 ⟨hy, b1⟩
      have hd := (Below.refl W0.heap.size W0).drew
      have b2 := hd.trans (b1.mono hd.size)
      replace e0 := cell_up e0 b2
      replace e1 := cell_up e1 b2
      replace x3 := cell_up x3 b2
      replace u0 := cell_up u0 b2
      replace u1 := cell_up u1 b2
      replace u2 := cell_up u2 b2
      replace u3 := cell_up u3 b2
      unfold RetV at hy
      subst hy
      have HP : Hid (RetV R (.returned (.agg #[.int .i64 R.K, .int .i64 R.N, .bool R.B]))) := rfl
      have ST2 := Lib.hid (ST0.out.up b2)
      clear b1 b2 hd HCA HCB HCC HR
      refine hK _ _ ⟨⟨e0,e1⟩,x3,u0,u1,u2,u3⟩ ?_
      clear hK K' e0 e1 x3 u0 u1 u2 u3
      generalize R.K = rk at *
      generalize R.N = rn at *
      generalize R.B = rb at *
      try simp only [Act.put, List.getElem_toArray, List.getElem_cons_zero, List.getElem_cons_succ, List.setIfInBounds_toArray, List.set_cons_zero, List.set_cons_succ]
      have HFN := Lib.hid (ret3 (.int .i64 rk) (.int .i64 rn) (.bool rb) ST2.out.below (by omega : w.heap.size ≤ w.heap.size + 1 + 1) ST2.out.res)
      obtain ⟨q0, q1, q2, q3, q4, q5⟩ := blk3 ST2.out.res
      have hm := ST2.out.lt
      refine till_last (by kernel_rfl) rfl (by kernel_rfl) (fun K' hK => ?_)
      go_simp
      refine hK _ _ ?_
      clear hK K'
      try simp only [Act.put, List.getElem_toArray, List.getElem_cons_zero, List.getElem_cons_succ, List.setIfInBounds_toArray, List.set_cons_zero, List.set_cons_succ]
      refine wpAny_done (by kernel_rfl) ?_ _
      go_wp2_with fail
      generalize ((w2.setCell ⟨w.heap.size + 1 + 1, 0, none⟩ (.int .i64 rk)).setCell ⟨w.heap.size + 1 + 1, 1, none⟩ (.int .i64 rn)).setCell ⟨w.heap.size + 1 + 1, 2, none⟩ (.bool rb) = W9 at *
      obtain ⟨r0, r1, r2, -, -, -⟩ := blk3 HFN.out.2
      refine bodyPost_ret (v := .agg #[.int .i64 rk, .int .i64 rn, .bool rb]) (by simp [results, Try.results60, go_sem, r0, r1, r2]) rfl ⟨HP.out, HFN.out.1⟩
    | false =>
      obtain rfl : R = C := HR.out
      have t0 : W0.cell? ⟨g, 0, none⟩ = some (.int .i64 2) := VA.out.blk.cell 0
      have t1 : W0.cell? ⟨g, 1, none⟩ = some (.int .i64 0) := VA.out.blk.cell 1
      have t2 : W0.cell? ⟨g, 2, none⟩ = some (.bool false) := VA.out.blk.cell 2
      obtain ⟨e0, e1, -, -⟩ := ST0.out.env.two
      obtain ⟨x0, x1, x2, x3, -, -, -, -⟩ := blk4 ST0.out.ex
      go_wp2_with fail
      clear e0 e1 x0 x1 x2 x3 t0 t1 t2
      obtain ⟨e0, e1, -, -⟩ := ST0.out.env.two
      have x3 : W0.cell? ⟨w.heap.size + 1, 3, none⟩ = _ := ST0.out.ex.cell 3
      simp only [List.getElem?_toArray, List.getElem?_cons_zero, List.getElem?_cons_succ] at x3
      obtain ⟨u0, u1, u2, u3⟩ := H2.out
      replace u0 := cell_up u0 ST0.out.below
      replace u1 := cell_up u1 ST0.out.below
      replace u2 := cell_up u2 ST0.out.below
      replace u3 := cell_up u3 ST0.out.below
      refine wp_region_till (S := fun W => (W.cell? ⟨w.heap.size, 0, none⟩ = some (.int .i64 day) ∧ W.cell? ⟨w.heap.size, 1, none⟩ = some (.slice a len cap)) ∧ W.cell? ⟨w.heap.size + 1, 3, none⟩ = some (.slice (some ⟨b, o, none⟩) 3 cap') ∧ W.cell? ⟨b, o + 8, none⟩ = some (.int .i64 o2) ∧ W.cell? ⟨b, o + 8 + 1, none⟩ = some (.int .i64 n2) ∧ W.cell? ⟨b, o + 8 + 2, none⟩ = some (.string m2) ∧ W.cell? ⟨b, o + 8 + 3, none⟩ = some (.slice a2 l2 p2)) 6 (by kernel_rfl) ?_
      refine till_take (i := 0) (v := ?_) rfl (by kernel_rfl) (fun _ _ _ h => h) (Or.inl ⟨by rfl, ?_⟩) ⟨⟨e0,e1⟩,x3,u0,u1,u2,u3⟩ ?_
      rotate_left
      · intro W hS
        try dsimp only at hS
        go_split_ands
        go_simp
        try with_reducible rfl
      try simp only [Act.put, List.getElem_toArray, List.getElem_cons_zero, List.getElem_cons_succ, List.setIfInBounds_toArray, List.set_cons_zero, List.set_cons_succ]
      refine till_take (i := 1) (v := ?_) rfl (by kernel_rfl) (fun _ _ _ h => h) (Or.inl ⟨by rfl, ?_⟩) ⟨⟨e0,e1⟩,x3,u0,u1,u2,u3⟩ ?_
      rotate_left
      · intro W hS
        try dsimp only at hS
        go_split_ands
        go_simp
        try with_reducible rfl
      try simp only [Act.put, List.getElem_toArray, List.getElem_cons_zero, List.getElem_cons_succ, List.setIfInBounds_toArray, List.set_cons_zero, List.set_cons_succ]
      refine till_take (i := 2) (v := ?_) rfl (by kernel_rfl) (fun _ _ _ h => h) (Or.inl ⟨by rfl, ?_⟩) ⟨⟨e0,e1⟩,x3,u0,u1,u2,u3⟩ ?_
      rotate_left
      · intro W hS
        try dsimp only at hS
        go_split_ands
        go_simp
        try with_reducible rfl
      try simp only [Act.put, List.getElem_toArray, List.getElem_cons_zero, List.getElem_cons_succ, List.setIfInBounds_toArray, List.set_cons_zero, List.set_cons_succ]
      refine till_take (i := 3) (v := ?_) rfl (by kernel_rfl) (fun _ _ _ h => h) (Or.inl ⟨by rfl, ?_⟩) ⟨⟨e0,e1⟩,x3,u0,u1,u2,u3⟩ ?_
      rotate_left
      · intro W hS
        try dsimp only at hS
        go_split_ands
        go_simp
        try with_reducible rfl
      try simp only [Act.put, List.getElem_toArray, List.getElem_cons_zero, List.getElem_cons_succ, List.setIfInBounds_toArray, List.set_cons_zero, List.set_cons_succ]
      refine till_take (i := 4) (v := ?_) rfl (by kernel_rfl) (fun _ _ _ h => h) (Or.inl ⟨by rfl, ?_⟩) ⟨⟨e0,e1⟩,x3,u0,u1,u2,u3⟩ ?_
      rotate_left
      · intro W hS
        try dsimp only at hS
        go_split_ands
        go_simp
        try with_reducible rfl
      try simp only [Act.put, List.getElem_toArray, List.getElem_cons_zero, List.getElem_cons_succ, List.setIfInBounds_toArray, List.set_cons_zero, List.set_cons_succ]
      refine till_one (i := 5) (by kernel_rfl) rfl (fun K' hK => ?_)
      go_simp
      go_at_call 60
      (with_reducible refine (EvC.run HCC.out _ ST0.out.below.drew).mono ?_)
      rintro y w2 ⟨hy, b1⟩
      have hd := (Below.refl W0.heap.size W0).drew
      have b2 := hd.trans (b1.mono hd.size)
      replace e0 := cell_up e0 b2
      replace e1 := cell_up e1 b2
      replace x3 := cell_up x3 b2
      replace u0 := cell_up u0 b2
      replace u1 := cell_up u1 b2
      replace u2 := cell_up u2 b2
      replace u3 := cell_up u3 b2
      unfold RetV at hy
      subst hy
      have HP : Hid (RetV R (.returned (.agg #[.int .i64 R.K, .int .i64 R.N, .bool R.B]))) := rfl
      have ST2 := Lib.hid (ST0.out.up b2)
      clear b1 b2 hd HCA HCB HCC HR
      refine hK _ _ ⟨⟨e0,e1⟩,x3,u0,u1,u2,u3⟩ ?_
      clear hK K' e0 e1 x3 u0 u1 u2 u3
      generalize R.K = rk at *
      generalize R.N = rn at *
      generalize R.B = rb at *
      try simp only [Act.put, List.getElem_toArray, List.getElem_cons_zero, List.getElem_cons_succ, List.setIfInBounds_toArray, List.set_cons_zero, List.set_cons_succ]
      have HFN := Lib.hid (ret3 (.int .i64 rk) (.int .i64 rn) (.bool rb) ST2.out.below (by omega : w.heap.size ≤ w.heap.size + 1 + 1) ST2.out.res)
      obtain ⟨q0, q1, q2, q3, q4, q5⟩ := blk3 ST2.out.res
      have hm := ST2.out.lt
      refine till_last (by kernel_rfl) rfl (by kernel_rfl) (fun K' hK => ?_)
      go_simp
      refine hK _ _ ?_
      clear hK K'
      try simp only [Act.put, List.getElem_toArray, List.getElem_cons_zero, List.getElem_cons_succ, List.setIfInBounds_toArray, List.set_cons_zero, List.set_cons_succ]
      refine wpAny_done (by kernel_rfl) ?_ _
      go_wp2_with fail
      generalize ((w2.setCell ⟨w.heap.size + 1 + 1, 0, none⟩ (.int .i64 rk)).setCell ⟨w.heap.size + 1 + 1, 1, none⟩ (.int .i64 rn)).setCell ⟨w.heap.size + 1 + 1, 2, none⟩ (.bool rb) = W9 at *
      obtain ⟨r0, r1, r2, -, -, -⟩ := blk3 HFN.out.2
      refine bodyPost_ret (v := .agg #[.int .i64 rk, .int .i64 rn, .bool rb]) (by simp [results, Try.results60, go_sem, r0, r1, r2]) rfl ⟨HP.out, HFN.out.1⟩
end Go.Proofs.Ytmiinmndbkdjbaa
