/- A part of the proof: Lss, Bet, Rex, Rflt, Rfit, one behind another. -/
import Derived.Test.YtppnmeobnilojaaMAA
import Derived.Test.YtppnmeobnilojaaMAB
import Derived.Test.YtppnmeobnilojaaMAC
import Derived.Test.YtppnmeobnilojaaMAD
import Derived.Test.YtppnmeobnilojaaMAE
import Derived.Test.YtppnmeobnilojaaMAF
import Derived.Test.YtppnmeobnilojaaMAG
import Derived.Test.YtppnmeobnilojaaMAH
import Derived.BigQuiet
import Derived.IntWalk
/- The contracts of ref21.less, better, with. -/
namespace Go.Proofs.Ytppnmeobnilojaa
set_option linter.unusedVariables false
set_option linter.unusedSimpArgs false
open Go.RowKit
theorem lessP_same {l l' : List Int} {k : Nat} {x : Int} (h : l[k]? = some x) (h' : l'[k]? = some x) : lessP (l.drop k) (l'.drop k) = lessP (l.drop (k + 1)) (l'.drop (k + 1)) := by
  obtain ⟨hk, rfl⟩ := List.getElem?_eq_some_iff.1 h
  obtain ⟨hk', e⟩ := List.getElem?_eq_some_iff.1 h'
  rw [List.drop_eq_getElem_cons hk, List.drop_eq_getElem_cons hk', e]
  simp [lessP]
theorem lessP_diff {l l' : List Int} {k : Nat} {x y : Int} (h : l[k]? = some x) (h' : l'[k]? = some y) (hne : x ≠ y) : lessP (l.drop k) (l'.drop k) = decide (x < y) := by
  obtain ⟨hk, rfl⟩ := List.getElem?_eq_some_iff.1 h
  obtain ⟨hk', rfl⟩ := List.getElem?_eq_some_iff.1 h'
  rw [List.drop_eq_getElem_cons hk, List.drop_eq_getElem_cons hk']
  simp [lessP, hne]
theorem lessP_end {l l' : List Int} {k : Nat} (hk : k ≤ l.length) (hk' : k ≤ l'.length) (h : ¬ (k < l.length ∧ k < l'.length)) : lessP (l.drop k) (l'.drop k) = decide (l.length < l'.length) := by
  rcases Nat.lt_or_ge k l.length with h1 | h1
  · have h2 : l'.length = k := by omega
    rw [List.drop_eq_getElem_cons h1, List.drop_of_length_le (by omega : l'.length ≤ k)]
    symm; rw [lessP_cons_nil, decide_eq_false_iff_not]; omega
  · rw [List.drop_of_length_le h1]
    rcases Nat.lt_or_ge k l'.length with h3 | h3
    · rw [List.drop_eq_getElem_cons h3]
      have : lessP [] (l'[k] :: l'.drop (k + 1)) = true := rfl
      rw [this]; symm; rw [decide_eq_true_eq]; omega
    · rw [List.drop_of_length_le h3]
      have : lessP [] [] = false := rfl
      rw [this]; symm; rw [decide_eq_false_iff_not]; omega
set_option maxRecDepth 100000 in
set_option maxHeartbeats 1000000 in
theorem less_any (l l' : List Int) (a a' : Option Addr) (len cap len' cap' : Nat) (w : World) (h1 : SlR i64K w [] l a len cap) (h2 : SlR i64K w [] l' a' len' cap') :
    Calls Try.prog 76 #[.slice a len cap, .slice a' len' cap'] w fun e w' => e = .returned (.bool (lessP l l')) ∧ Below w.heap.size w w' := by
  obtain ⟨f1, f2, f3⟩ := h1.facts
  obtain ⟨f4, f5, f6⟩ := h2.facts
  have H1 := Lib.hid h1
  have H2 := Lib.hid h2
  have F1 := Lib.hid f1
  have F4 := Lib.hid f4
  clear h1 h2 f1 f4
  have HS : Hid (lessP (l.drop 0) (l'.drop 0) = lessP l l') := rfl
  generalize lessP l l' = R at *
  go_enter Try.func76, Try.ntmps76
  go_wp2_with fail
  go_loopw [5] (fun i wr => ∃ (k : Nat), i = .int .i64 (k : Nat) ∧ k ≤ len ∧ k ≤ len' ∧ Hid (lessP (l.drop k) (l'.drop k) = R) ∧ Hid (Below w.heap.size w wr)) (fun i _ => len - (intOf i).toNat)
  case atStart => exact ⟨0, rfl, Nat.zero_le _, Nat.zero_le _, HS.out, Below.refl _ _⟩
  case round =>
    obtain ⟨k, rfl, hk, hk', HQ, HB⟩ := hrel
    clear HS
    have i0 : (0 : Int) ≤ (k : Int) := by omega
    by_cases hlt : k < len ∧ k < len'
    · obtain ⟨g1, g2⟩ := hlt
      have g1' : (k : Int) < (len : Int) := by omega
      have g2' : (k : Int) < (len' : Int) := by omega
      obtain ⟨b, o, x, rfl, hx, -, c0⟩ := int_at (H1.out.kept (Kept.of_below HB.out [])) k g1
      obtain ⟨b', o', y, rfl, hy, -, c1⟩ := int_at (H2.out.kept (Kept.of_below HB.out [])) k g2
      by_cases hxy : x = y
      · subst hxy
        have HQ' := Lib.hid ((lessP_same hx hy).symm.trans HQ.out)
        clear HQ hx hy
        go_wp2_with fail
        go_quiet (fail)
        go_wp2_with fail
        go_roundw
        case rel => exact ⟨k + 1, by go_num, by omega, by omega, HQ'.out, below_drewN HB.out _⟩
        case measure => simp [intOf]; omega
      · have hR : R = decide (x < y) := by rw [← HQ.out, lessP_diff hx hy hxy]
        subst hR
        have hb : (x == y) = false := beq_eq_false_iff_ne.2 hxy
        have hb' : (x != y) = true := by simp [bne, hb]
        clear HQ hx hy hxy
        go_wp2_with fail
        go_quiet (fail)
        go_wp2_with fail
        go_quiet (fail)
        go_wp2_with fail
        go_ret
        exact ⟨rfl, below_drewN (below_drewN HB.out _) _⟩
    · have hR : R = decide (len < len') := by rw [← HQ.out, lessP_end (by rw [F1.out]; exact hk) (by rw [F4.out]; exact hk') (by rw [F1.out, F4.out]; exact hlt), F1.out, F4.out]
      subst hR
      clear HQ
      by_cases g1 : k < len
      · have g1' : (k : Int) < (len : Int) := by omega
        have g2 : ¬ (k : Int) < (len' : Int) := by omega
        have g3 : ¬ k < len' := by omega
        clear hlt
        go_wp2_with fail
        go_ret
        exact ⟨by first | rfl | (congr 2; congr 1; omega), HB.out⟩
      · have g1' : ¬ (k : Int) < (len : Int) := by omega
        clear hlt
        go_wp2_with fail
        go_ret
        exact ⟨rfl, HB.out⟩
end Go.Proofs.Ytppnmeobnilojaa

/- The contracts of ref21.better, with. -/
namespace Go.Proofs.Ytppnmeobnilojaa
set_option linter.unusedVariables false
set_option linter.unusedSimpArgs false
open Go.RowKit
/-- A path that is held, or none. -/
def PathH (w : World) (o : Option (List Int)) (a : Option Addr) (cap : Nat) : Prop := SlR i64K w [] (pth o) a (pth o).length cap ∧ ((pth o).length = 0 → a = none)
theorem PathH.kept {w w' : World} {o : Option (List Int)} {a : Option Addr} {cap : Nat} (h : PathH w o a cap) (k : Kept [] w w') : PathH w' o a cap := ⟨h.1.kept k, h.2⟩
set_option maxRecDepth 100000 in
set_option maxHeartbeats 1000000 in
theorem better_any (o o' : Option (List Int)) (a a' : Option Addr) (cap cap' : Nat) (w : World) (h1 : PathH w o a cap) (h2 : PathH w o' a' cap') :
    Calls Try.prog 53 #[.slice a (pth o).length cap, .bool o.isSome, .slice a' (pth o').length cap', .bool o'.isSome] w fun e w' => PathR w' (bet o o') e ∧ Below w.heap.size w w' := by
  have H1 := Lib.hid h1
  have H2 := Lib.hid h2
  have hL := less_any (pth o') (pth o) a' a _ cap' _ cap w h2.1 h1.1
  clear h1 h2
  have HP : Hid (∀ W, Below w.heap.size w W → ∀ b, b = o'.isSome → PathR W o' (.returned (.tuple #[.slice a' (pth o').length cap', .bool b]))) := fun W hW b hb => ⟨a', cap', by rw [hb], H2.out.1.kept (Kept.of_below hW []), H2.out.2⟩
  have HQ : Hid (∀ W, Below w.heap.size w W → ∀ b, b = o.isSome → PathR W o (.returned (.tuple #[.slice a (pth o).length cap, .bool b]))) := fun W hW b hb => ⟨a, cap, by rw [hb], H1.out.1.kept (Kept.of_below hW []), H1.out.2⟩
  have HL := Lib.hid hL
  clear hL H1 H2
  cases ho : o with
  | none =>
    subst ho
    have HB : Hid (bet none o' = o') := rfl
    rw [HB.out]
    clear HB HQ HL
    have hb := Lib.hid (rfl : o'.isSome = o'.isSome)
    have HF := Lib.hid (fun b hb => HP.out w (Below.refl _ _) b hb)
    clear HP
    show Calls Try.prog 53 #[.slice a 0 cap, .bool false, .slice a' (pth o').length cap', .bool o'.isSome] w _
    generalize (pth o').length = m at *
    generalize o'.isSome = q at *
    go_enter Try.func53, Try.ntmps53
    go_wp2_with fail
    go_ret2
    exact ⟨HF.out _ rfl, Below.refl _ _⟩
  | some p =>
    subst ho
    cases ho : o' with
    | none =>
      subst ho
      have HB : Hid (bet (some p) none = some p) := rfl
      rw [HB.out]
      have HF := Lib.hid (HQ.out w (Below.refl _ _) true rfl)
      clear HB HQ HL HP
      show Calls Try.prog 53 #[.slice a (pth (some p)).length cap, .bool true, .slice a' 0 cap', .bool false] w _
      generalize (pth (some p)).length = m at *
      go_enter Try.func53, Try.ntmps53
      go_wp2_with fail
      go_ret2
      exact ⟨HF.out, Below.refl _ _⟩
    | some q =>
      subst ho
      have HB : Hid (bet (some p) (some q) = if lessP q p = true then some q else some p) := rfl
      have hL : Hid (Calls Try.prog 76 #[.slice a' (pth (some q)).length cap', .slice a (pth (some p)).length cap] w fun e w' => e = .returned (.bool (lessP q p)) ∧ Below w.heap.size w w') := HL.out
      have HF1 := Lib.hid (fun W hW => HQ.out W hW true rfl)
      have HF2 := Lib.hid (fun W hW => HP.out W hW true rfl)
      clear HL HP HQ
      show Calls Try.prog 53 #[.slice a (pth (some p)).length cap, .bool true, .slice a' (pth (some q)).length cap', .bool true] w _
      generalize (pth (some p)).length = m at *
      generalize (pth (some q)).length = m' at *
      generalize lessP q p = R at *
      generalize hbe : bet (some p) (some q) = B at *
      go_enter Try.func53, Try.ntmps53
      go_wp2_with fail
      go_at_call 76
      (with_reducible refine hL.out.mono ?_)
      rintro x w1 ⟨rfl, b1⟩
      have HB1 := Lib.hid b1
      clear b1 hL hbe
      cases R with
      | true =>
        obtain rfl : B = some q := HB.out
        clear HB
        go_wp2_with fail
        go_ret2
        exact ⟨HF2.out _ HB1.out, HB1.out⟩
      | false =>
        obtain rfl : B = some p := HB.out
        clear HB
        go_wp2_with fail
        go_ret2
        exact ⟨HF1.out _ HB1.out, HB1.out⟩
theorem wpath_any (p : List Int) (i : Int) (a : Option Addr) (len cap : Nat) (w : World) (h : SlR i64K w [] p a len cap) (hn : len = 0 → a = none) (hi : I64 i) (hlen : len ≤ 100000) :
    Calls Try.prog 52 #[.slice a len cap, .int .i64 i] w fun e w' => (∃ a' cap', e = .returned (.slice a' (len + 1) cap') ∧ SlR i64K w' [] (p ++ [i]) a' (len + 1) cap') ∧ Below w.heap.size w w' := by
  have H := Lib.hid h
  have HN := Lib.hid hn
  have HI := Lib.hid hi
  clear h hn hi
  go_enter Try.func52, Try.ntmps52
  go_upto_region 3 with (at_builtin; refine ap_sl (base := w.heap.size) infoI Try.underlying27 rfl rfl (.tmp 6) (.tmp 7) rfl rfl (World.ownsRow_nil w w.heap.size 3 1) (Nat.le_refl _) H.out rfl HN.out (by unfold maxLen; omega) (by omega) ?_; intro v' w' o' g' h'; have HO := Lib.hid o'; have HG := Lib.hid g'; clear o' g' h')
  have HB1 := Lib.hid ((Below.refl w.heap.size w).grown HG.out (Nat.le_refl _) (fun b hb => by cases (show (none : Option Nat) = some b from hb)))
  have hb2 := (Below.refl w'.heap.size w').alloc (Nat.le_refl _) (.cells #[.int .i64 i] 3)
  have HO2 := Lib.hid (own_below HO.out hb2)
  have HB2 := Lib.hid (HB1.out.trans (hb2.mono HB1.out.size))
  clear hb2
  go_wp2_with (at_builtin; refine ap_row infoI Try.underlying27 rfl (by decide) rfl (.tmp 9) (.tmp 11) rfl rfl HO2.out HB2.out.size ⟨w'.heap.size, 0, none⟩ 1 1 [.int .i64 i] rfl rfl (lit_cells_at w' #[.int .i64 i] 3 _ rfl) (by simp [Value.oneCell']) (by unfold maxLen; omega) (by omega) ?_; intro v3 w3 o1 g1 hv1; have HO3 := Lib.hid o1; have HG3 := Lib.hid g1; clear o1 g1 hv1)
  have HB3 := Lib.hid (HB2.out.grown HG3.out HB2.out.size (fun b hb => (own_lt HO2.out hb).1))
  have e : Hid (0 + len + 1 = len + 1) := by show _ = _; omega
  have hO : w3.ownsRow w.heap.size 3 1 v3 (len + 1) (ivs (p ++ [i])) := by
    have h := HO3.out
    rw [e.out] at h
    rw [← ivs_app]
    exact h
  obtain ⟨a', c', rfl, hS⟩ := own_ints hO HB3.out.size (by rw [List.length_append, H.out.facts.1]; rfl) (fun x hx => by
    rcases List.mem_append.1 hx with hx | hx
    · exact H.out.i64 x hx
    · rw [List.mem_singleton] at hx; subst hx; exact HI.out)
  have HS := Lib.hid hS
  clear hS hO e
  go_ret
  exact ⟨⟨a', c', rfl, HS.out⟩, HB3.out⟩
end Go.Proofs.Ytppnmeobnilojaa

/- The contract of ref21.exprs; condition: built, paths not too long. -/
namespace Go.Proofs.Ytppnmeobnilojaa
set_option linter.unusedVariables false
set_option linter.unusedSimpArgs false
open Go.RowKit
/-- Best so far, at place k. -/
def refG (p : List Int) (l : List Ex) (k : Nat) : Option (List Int) := refE.go p 0 none (l.take k)
theorem refE_go_snoc {p : List Int} : ∀ (l : List Ex) (i : Nat) (b : Option (List Int)) (e : Ex), refE.go p i b (l ++ [e]) = bet (refE.go p i b l) (refE e (p ++ [((i + l.length : Nat) : Int)]))
  | [], i, b, e => by simp [refE.go]
  | x :: t, i, b, e => by
    simp only [List.cons_append, refE.go, List.length_cons]
    rw [refE_go_snoc t (i + 1) _ e]
    rw [show i + 1 + t.length = i + (t.length + 1) by omega]
theorem refG_succ {p : List Int} {l : List Ex} {k : Nat} {e : Ex} (h : l[k]? = some e) : refG p l (k + 1) = bet (refG p l k) (refE e (p ++ [(k : Int)])) := by
  obtain ⟨hk, rfl⟩ := List.getElem?_eq_some_iff.1 h
  unfold refG
  rw [List.take_succ_eq_append_getElem hk, refE_go_snoc, List.length_take, Nat.min_eq_left (by omega), Nat.zero_add]
theorem refG_all {p : List Int} {l : List Ex} : refG p l l.length = refE.go p 0 none l := by unfold refG; rw [List.take_length]
theorem refE_len {e : Ex} (hb : bE e = true) (p : List Int) {q : List Int} (h : refE e p = some q) : q.length ≤ p.length + e.rk := by
  rw [refE_eq _ e (Nat.le_refl _) hb] at h
  cases hf : faultE e with
  | none => rw [hf] at h; cases h
  | some r =>
    rw [hf] at h
    injection h with h
    have := faultE_len _ e (Nat.le_refl _) r hf
    rw [← h, List.length_append]; omega
def whl (l : List Ex) (k : Nat) : Bool := (l.take k).all fun c => decide (kE c ≠ 0)
theorem whl_succ {l : List Ex} {k : Nat} {e : Ex} (h : l[k]? = some e) : whl l (k + 1) = (whl l k && decide (kE e ≠ 0)) := by
  obtain ⟨hk, rfl⟩ := List.getElem?_eq_some_iff.1 h
  unfold whl
  rw [List.take_succ_eq_append_getElem hk, List.all_append]; simp
theorem refE_end {op n : Int} {nm : ByteArray} {l : List Ex} {p : List Int} : refE (.mk op n nm l) p = if kE (.mk op n nm l) = 0 ∧ whl l l.length = true then bet (refG p l l.length) (some p) else refG p l l.length := by
  rw [refG_all, refE, kE_mk]
  congr 1
  unfold whl
  rw [List.take_length, List.all_eq_true]
  simp
set_option maxRecDepth 100000 in
set_option maxHeartbeats 4000000 in
theorem rexprs_any : ∀ (r : Nat) (e : Ex), e.rk ≤ r → bE e = true → ∀ (cs : List Value) (p : List Int) (ap : Option Addr) (lp cp : Nat) (w : World), RepE w [] e cs → SlR i64K w [] p ap lp cp → (lp = 0 → ap = none) → lp + r ≤ 2000 →
    Calls Try.prog 51 #[.agg cs.toArray, .slice ap lp cp] w fun x w' => PathR w' (refE e p) x ∧ Below w.heap.size w w' := by
  intro r
  induction r with
  | zero => intro e h; have := e.rk_pos; omega
  | succ r ih =>
    intro e hr hb cs p ap lp cp w hR hP hn hlp
    have HKD := Lib.hid (fun W (hW : Below w.heap.size w W) => rkind_any e.rk e (Nat.le_refl _) hb cs W (hR.kept (Kept.of_below hW [])))
    obtain ⟨op, no, nm, args, a, len, cap, rfl, rfl, i1, i2, i3, hS⟩ := hR.inv
    obtain ⟨g1, g2, g3⟩ := bE_inv hb
    obtain ⟨f1, f2, f3⟩ := hS.facts
    obtain ⟨q1, q2, q3⟩ := hP.facts
    have HI : Hid (∀ (k : Nat) e1, args[k]? = some e1 → ∀ cs1 p1 ap1 lp1 cp1 W, RepE W [] e1 cs1 → SlR i64K W [] p1 ap1 lp1 cp1 → (lp1 = 0 → ap1 = none) → lp1 ≤ lp + 1 → Calls Try.prog 51 #[.agg cs1.toArray, .slice ap1 lp1 cp1] W fun x w' => PathR w' (refE e1 p1) x ∧ Below W.heap.size W w') := by
      intro k e1 hk cs1 p1 ap1 lp1 cp1 W hR1 hP1 hn1 hl1
      exact ih e1 (by have := Ex.rk_lt (op := op) (n := no) (nm := nm) hk; omega) (g3 e1 (List.mem_of_getElem? hk)) cs1 p1 ap1 lp1 cp1 W hR1 hP1 hn1 (by omega)
    have HKI : Hid (∀ (k : Nat) e1, args[k]? = some e1 → ∀ cs1 W, RepE W [] e1 cs1 → Calls Try.prog 25 #[.agg cs1.toArray] W fun x w' => x = .returned (.int .i64 (kE e1)) ∧ Below W.heap.size W w') := fun k e1 hk cs1 W hR1 => rkind_any e1.rk e1 (Nat.le_refl _) (g3 e1 (List.mem_of_getElem? hk)) cs1 W hR1
    have HEND := Lib.hid (@refE_end op no nm args p)
    have HB0 := Lib.hid ((Below.refl w.heap.size w).alloc (Nat.le_refl _) (.cells #[.int .i64 op, .int .i64 no, .string nm, .slice a len cap] 46))
    have BX := Lib.hid (Mem.Blk.new w 46 #[.int .i64 op, .int .i64 no, .string nm, .slice a len cap])
    have HSS := Lib.hid (hS.kept (Kept.of_below HB0.out []))
    have HPP := Lib.hid (hP.kept (Kept.of_below HB0.out []))
    have HL := Lib.hid f1
    have HPL := Lib.hid q1
    have HN := Lib.hid hn
    clear ih hr hR hS i1 i2 i3 f1 g1 g2 g3 hb hP hn q1
    generalize refE (.mk op no nm args) p = R at *
    generalize kE (.mk op no nm args) = ke at *
    go_enter Try.func51, Try.ntmps51
    go_upto_region 5 with (fail)
    generalize w.alloc (.cells #[.int .i64 op, .int .i64 no, .string nm, .slice a len cap] 46) = v at *
    go_loopw [6, 7, 8, 9] (fun vb vf vw i wr => ∃ (k : Nat) (o : Option (List Int)) (ab : Option Addr) (cb : Nat) (wh : Bool), i = .int .i64 (k : Nat) ∧ vb = .slice ab (pth o).length cb ∧ vf = .bool o.isSome ∧ vw = .bool wh ∧ k ≤ len ∧ Hid (o = refG p args k) ∧ Hid (wh = whl args k) ∧ Hid (PathH wr o ab cb) ∧ Hid (Below v.heap.size v wr)) (fun _ _ _ i _ => len - (intOf i).toNat)
    case atStart => exact ⟨0, none, none, 0, true, rfl, rfl, rfl, rfl, Nat.zero_le _, rfl, rfl, ⟨SlR.nil _ _ _, fun _ => rfl⟩, Below.refl _ _⟩
    case round =>
      obtain ⟨k, o, ab, cb, wh, rfl, rfl, rfl, rfl, hk, HO, HWH, HPH, HB⟩ := hrel
      obtain ⟨c0, c1, c2, c3, -, -, -, -⟩ := blk4 (BX.out.below HB.out)
      by_cases hlt : k < len
      · obtain ⟨b, o9, cop, cn, cnm, cargs, ca, clen, ccap, rfl, -, -, hxe, j1, j2, j3, hSc, v0, v1, v2, v3⟩ := (HSS.out.kept (Kept.of_below HB.out [])).at k hlt
        have j1' : (k : Int) < (len : Int) := by omega
        have j0' : (0 : Int) ≤ (k : Int) := by omega
        have HRG := Lib.hid (refG_succ (p := p) hxe)
        have HWS := Lib.hid (whl_succ hxe)
        have HSC := Lib.hid (RepE.mk' j1 j2 j3 hSc)
        have HC1 := Lib.hid (HKI.out k _ hxe)
        have HC2 := Lib.hid (HI.out k _ hxe)
        clear hxe j1 j2 j3 hSc
        obtain ⟨o2, ho2⟩ : ∃ o2, o2 = refG p args (k + 1) := ⟨_, rfl⟩
        obtain ⟨wh2, hwh2⟩ : ∃ wh2, wh2 = whl args (k + 1) := ⟨_, rfl⟩
        rw [← ho2] at HRG
        rw [← hwh2] at HWS
        have HO2 := Lib.hid ho2
        have HW2 := Lib.hid hwh2
        clear ho2 hwh2
        generalize Ex.mk cop cn cnm cargs = c at *
        rw [← HO.out] at HRG
        rw [← HWH.out] at HWS
        cases wh with
        | false =>
          have hw2 : wh2 = false := HWS.out
          subst hw2
          clear HWS HC1
          go_wp2_with fail
          refine wp_region_till (S := fun W => W.cell? ⟨w.heap.size, 3, none⟩ = some (.slice (some ⟨b, o9, none⟩) len cap) ∧ W.cell? ⟨b, o9 + k * 4, none⟩ = some (.int .i64 cop) ∧ W.cell? ⟨b, o9 + k * 4 + 1, none⟩ = some (.int .i64 cn) ∧ W.cell? ⟨b, o9 + k * 4 + 2, none⟩ = some (.string cnm) ∧ W.cell? ⟨b, o9 + k * 4 + 3, none⟩ = some (.slice ca clen ccap)) 8 (by kernel_rfl) ?_
          refine till_take (i := 0) (v := ?_) rfl (by kernel_rfl) (fun _ _ _ h => h) (Or.inl ⟨by rfl, ?_⟩) ⟨c3,v0,v1,v2,v3⟩ ?_
          rotate_left
          · intro W hS
            try dsimp only at hS
            go_split_ands
            go_simp
            try with_reducible rfl
          try simp only [Act.put, List.getElem_toArray, List.getElem_cons_zero, List.getElem_cons_succ, List.setIfInBounds_toArray, List.set_cons_zero, List.set_cons_succ]
          refine till_take (i := 1) (v := ?_) rfl (by kernel_rfl) (fun _ _ _ h => h) (Or.inl ⟨by rfl, ?_⟩) ⟨c3,v0,v1,v2,v3⟩ ?_
          rotate_left
          · intro W hS
            try dsimp only at hS
            go_split_ands
            go_simp
            try with_reducible rfl
          try simp only [Act.put, List.getElem_toArray, List.getElem_cons_zero, List.getElem_cons_succ, List.setIfInBounds_toArray, List.set_cons_zero, List.set_cons_succ]
          refine till_take (i := 2) (v := ?_) rfl (by kernel_rfl) (fun _ _ _ h => h) (Or.inl ⟨by rfl, ?_⟩) ⟨c3,v0,v1,v2,v3⟩ ?_
          rotate_left
          · intro W hS
            try dsimp only at hS
            go_split_ands
            go_simp
            try with_reducible rfl
          try simp only [Act.put, List.getElem_toArray, List.getElem_cons_zero, List.getElem_cons_succ, List.setIfInBounds_toArray, List.set_cons_zero, List.set_cons_succ]
          refine till_take (i := 3) (v := ?_) rfl (by kernel_rfl) (fun _ _ _ h => h) (Or.inl ⟨by rfl, ?_⟩) ⟨c3,v0,v1,v2,v3⟩ ?_
          rotate_left
          · intro W hS
            try dsimp only at hS
            go_split_ands
            go_simp
            try with_reducible rfl
          try simp only [Act.put, List.getElem_toArray, List.getElem_cons_zero, List.getElem_cons_succ, List.setIfInBounds_toArray, List.set_cons_zero, List.set_cons_succ]
          refine till_take (i := 4) (v := ?_) rfl (by kernel_rfl) (fun _ _ _ h => h) (Or.inl ⟨by rfl, ?_⟩) ⟨c3,v0,v1,v2,v3⟩ ?_
          rotate_left
          · intro W hS
            try dsimp only at hS
            go_split_ands
            go_simp
            try with_reducible rfl
          try simp only [Act.put, List.getElem_toArray, List.getElem_cons_zero, List.getElem_cons_succ, List.setIfInBounds_toArray, List.set_cons_zero, List.set_cons_succ]
          refine till_take (i := 5) (v := ?_) rfl (by kernel_rfl) (fun _ _ _ h => h) (Or.inl ⟨by rfl, ?_⟩) ⟨c3,v0,v1,v2,v3⟩ ?_
          rotate_left
          · intro W hS
            try dsimp only at hS
            go_split_ands
            go_simp
            try with_reducible rfl
          try simp only [Act.put, List.getElem_toArray, List.getElem_cons_zero, List.getElem_cons_succ, List.setIfInBounds_toArray, List.set_cons_zero, List.set_cons_succ]
          refine till_take (i := 6) (v := ?_) rfl (by kernel_rfl) (fun _ _ _ h => h) (Or.inl ⟨by rfl, ?_⟩) ⟨c3,v0,v1,v2,v3⟩ ?_
          rotate_left
          · intro W hS
            try dsimp only at hS
            go_split_ands
            go_simp
            try with_reducible rfl
          try simp only [Act.put, List.getElem_toArray, List.getElem_cons_zero, List.getElem_cons_succ, List.setIfInBounds_toArray, List.set_cons_zero, List.set_cons_succ]
          refine till_one (i := 7) (by kernel_rfl) rfl (fun K' hK => ?_)
          go_simp
          have HWd := Lib.hid (HB.out.drew)
          go_at_call 52
          (with_reducible refine (wpath_any p (k : Int) ap lp cp _ (HPP.out.kept (Kept.of_below HWd.out [])) HN.out (by unfold I64; omega) (by omega)).mono ?_)
          rintro y w5 ⟨⟨a5, c5, rfl, hS5⟩, b5⟩
          have HW5 := Lib.hid (HWd.out.trans (b5.mono HWd.out.size))
          have HPH5 := Lib.hid ((HPH.out.kept (Kept.of_below (Below.refl _ _).drew [])).kept (Kept.of_below b5 []))
          have HSC5 := Lib.hid ((HSC.out.kept (Kept.of_below (Below.refl _ _).drew [])).kept (Kept.of_below b5 []))
          have HS5 := Lib.hid hS5
          have u0 := cell_up (w := wr.drew) v0 b5
          have u1 := cell_up (w := wr.drew) v1 b5
          have u2 := cell_up (w := wr.drew) v2 b5
          have u3 := cell_up (w := wr.drew) v3 b5
          have u4 := cell_up (w := wr.drew) c3 b5
          clear b5 v0 v1 v2 v3 c0 c1 c2 c3 HSC HPH HB HWd hS5
          refine hK _ _ ⟨u4,u0,u1,u2,u3⟩ ?_
          clear hK K'
          try simp only [Act.put, List.getElem_toArray, List.getElem_cons_zero, List.getElem_cons_succ, List.setIfInBounds_toArray, List.set_cons_zero, List.set_cons_succ]
          refine till_last (by kernel_rfl) rfl (by kernel_rfl) (fun K' hK => ?_)
          go_simp
          go_at_call 51
          (with_reducible refine (HC2.out _ (p ++ [(k : Int)]) a5 (lp + 1) c5 w5 HSC5.out HS5.out (fun h => absurd h (by omega)) (by omega)).mono ?_)
          rintro y w6 ⟨⟨a6, c6, rfl, hS6, hn6⟩, b6⟩
          have HW6 := Lib.hid (HW5.out.trans (b6.mono HW5.out.size))
          have HPH6 := Lib.hid (HPH5.out.kept (Kept.of_below b6 []))
          have HR6 : Hid (PathH w6 (refE c (p ++ [(k : Int)])) a6 c6) := ⟨hS6, hn6⟩
          clear b6 u0 u1 u2 u3 u4 HC2 HSC5 HS5 HPH5 HW5 hS6 hn6
          generalize refE c (p ++ [(k : Int)]) = q at *
          refine hK _ _ ?_
          clear hK K'
          try simp only [Act.put, List.getElem_toArray, List.getElem_cons_zero, List.getElem_cons_succ, List.setIfInBounds_toArray, List.set_cons_zero, List.set_cons_succ]
          refine any_take (i := 9) (v := ?_) rfl (by kernel_rfl) (fun _ _ _ h => h) (Or.inl ⟨by rfl, ?_⟩) ?_
          rotate_left
          · intro W
            go_simp
            try with_reducible rfl
          try simp only [Act.put, List.getElem_toArray, List.getElem_cons_zero, List.getElem_cons_succ, List.setIfInBounds_toArray, List.set_cons_zero, List.set_cons_succ]
          refine any_take (i := 10) (v := ?_) rfl (by kernel_rfl) (fun _ _ _ h => h) (Or.inl ⟨by rfl, ?_⟩) ?_
          rotate_left
          · intro W
            go_simp
            try with_reducible rfl
          try simp only [Act.put, List.getElem_toArray, List.getElem_cons_zero, List.getElem_cons_succ, List.setIfInBounds_toArray, List.set_cons_zero, List.set_cons_succ]
          refine any_take (i := 11) (v := ?_) rfl (by kernel_rfl) (fun _ _ _ h => h) (Or.inl ⟨by rfl, ?_⟩) ?_
          rotate_left
          · intro W
            go_simp
            try with_reducible rfl
          try simp only [Act.put, List.getElem_toArray, List.getElem_cons_zero, List.getElem_cons_succ, List.setIfInBounds_toArray, List.set_cons_zero, List.set_cons_succ]
          refine any_take (i := 12) (v := ?_) rfl (by kernel_rfl) (fun _ _ _ h => h) (Or.inl ⟨by rfl, ?_⟩) ?_
          rotate_left
          · intro W
            go_simp
            try with_reducible rfl
          try simp only [Act.put, List.getElem_toArray, List.getElem_cons_zero, List.getElem_cons_succ, List.setIfInBounds_toArray, List.set_cons_zero, List.set_cons_succ]
          refine any_take (i := 13) (v := ?_) rfl (by kernel_rfl) (fun _ _ _ h => h) (Or.inl ⟨by rfl, ?_⟩) ?_
          rotate_left
          · intro W
            go_simp
            try with_reducible rfl
          try simp only [Act.put, List.getElem_toArray, List.getElem_cons_zero, List.getElem_cons_succ, List.setIfInBounds_toArray, List.set_cons_zero, List.set_cons_succ]
          refine wpAny_done (by kernel_rfl) ?_ _
          have HBT := Lib.hid (better_any o q ab a6 cb c6 w6 HPH6.out HR6.out)
          generalize hq1 : (pth q).length = lq at *
          generalize hq2 : q.isSome = bq at *
          have HBT' := Lib.hid HBT.out
          clear HBT hq1 hq2
          go_wp2_with fail
          go_at_call 53
          (with_reducible refine HBT'.out.mono ?_)
          rintro y w7 ⟨⟨a7, c7, rfl, hS7, hn7⟩, b7⟩
          have HW7 := Lib.hid (HW6.out.trans (b7.mono HW6.out.size))
          have HP7 : Hid (PathH w7 (bet o q) a7 c7) := ⟨hS7, hn7⟩
          clear b7 HW6 HPH6 HR6 hS7 hn7 HBT'
          rw [← HRG.out] at HP7
          go_wp2_with fail
          go_roundw
          case rel => exact ⟨k + 1, o2, a7, c7, _, by go_num, by rw [HRG.out], by rw [HRG.out], rfl, by omega, HO2.out, HW2.out, HP7.out, HW7.out⟩
          case measure => simp [intOf]; omega
        | true =>
          go_wp2_with fail
          go_at_call 25
          (with_reducible refine (HC1.out _ wr HSC.out).mono ?_)
          rintro y w3 ⟨rfl, b3⟩
          have HB3 := Lib.hid (HB.out.trans (b3.mono HB.out.size))
          have HPH3 := Lib.hid (HPH.out.kept (Kept.of_below b3 []))
          have HSC3 := Lib.hid (HSC.out.kept (Kept.of_below b3 []))
          have u0 := cell_up v0 b3
          have u1 := cell_up v1 b3
          have u2 := cell_up v2 b3
          have u3 := cell_up v3 b3
          clear b3 v0 v1 v2 v3 c0 c1 c2 c3 HSC HPH HB HC1
          have v0 := u0
          have v1 := u1
          have v2 := u2
          have v3 := u3
          clear u0 u1 u2 u3
          have HSC := HSC3
          clear HSC3
          obtain ⟨c0, c1, c2, c3, -, -, -, -⟩ := blk4 (BX.out.below HB3.out)
          by_cases hkc : kE c = 0
          · have hw2 : wh2 = false := by rw [HWS.out, hkc]; rfl
            subst hw2
            generalize kE c = kc at *
            subst hkc
            clear HWS
            go_wp2_with fail
            refine wp_region_till (S := fun W => W.cell? ⟨w.heap.size, 3, none⟩ = some (.slice (some ⟨b, o9, none⟩) len cap) ∧ W.cell? ⟨b, o9 + k * 4, none⟩ = some (.int .i64 cop) ∧ W.cell? ⟨b, o9 + k * 4 + 1, none⟩ = some (.int .i64 cn) ∧ W.cell? ⟨b, o9 + k * 4 + 2, none⟩ = some (.string cnm) ∧ W.cell? ⟨b, o9 + k * 4 + 3, none⟩ = some (.slice ca clen ccap)) 8 (by kernel_rfl) ?_
            refine till_take (i := 0) (v := ?_) rfl (by kernel_rfl) (fun _ _ _ h => h) (Or.inl ⟨by rfl, ?_⟩) ⟨c3,v0,v1,v2,v3⟩ ?_
            rotate_left
            · intro W hS
              try dsimp only at hS
              go_split_ands
              go_simp
              try with_reducible rfl
            try simp only [Act.put, List.getElem_toArray, List.getElem_cons_zero, List.getElem_cons_succ, List.setIfInBounds_toArray, List.set_cons_zero, List.set_cons_succ]
            refine till_take (i := 1) (v := ?_) rfl (by kernel_rfl) (fun _ _ _ h => h) (Or.inl ⟨by rfl, ?_⟩) ⟨c3,v0,v1,v2,v3⟩ ?_
            rotate_left
            · intro W hS
              try dsimp only at hS
              go_split_ands
              go_simp
              try with_reducible rfl
            try simp only [Act.put, List.getElem_toArray, List.getElem_cons_zero, List.getElem_cons_succ, List.setIfInBounds_toArray, List.set_cons_zero, List.set_cons_succ]
            refine till_take (i := 2) (v := ?_) rfl (by kernel_rfl) (fun _ _ _ h => h) (Or.inl ⟨by rfl, ?_⟩) ⟨c3,v0,v1,v2,v3⟩ ?_
            rotate_left
            · intro W hS
              try dsimp only at hS
              go_split_ands
              go_simp
              try with_reducible rfl
            try simp only [Act.put, List.getElem_toArray, List.getElem_cons_zero, List.getElem_cons_succ, List.setIfInBounds_toArray, List.set_cons_zero, List.set_cons_succ]
            refine till_take (i := 3) (v := ?_) rfl (by kernel_rfl) (fun _ _ _ h => h) (Or.inl ⟨by rfl, ?_⟩) ⟨c3,v0,v1,v2,v3⟩ ?_
            rotate_left
            · intro W hS
              try dsimp only at hS
              go_split_ands
              go_simp
              try with_reducible rfl
            try simp only [Act.put, List.getElem_toArray, List.getElem_cons_zero, List.getElem_cons_succ, List.setIfInBounds_toArray, List.set_cons_zero, List.set_cons_succ]
            refine till_take (i := 4) (v := ?_) rfl (by kernel_rfl) (fun _ _ _ h => h) (Or.inl ⟨by rfl, ?_⟩) ⟨c3,v0,v1,v2,v3⟩ ?_
            rotate_left
            · intro W hS
              try dsimp only at hS
              go_split_ands
              go_simp
              try with_reducible rfl
            try simp only [Act.put, List.getElem_toArray, List.getElem_cons_zero, List.getElem_cons_succ, List.setIfInBounds_toArray, List.set_cons_zero, List.set_cons_succ]
            refine till_take (i := 5) (v := ?_) rfl (by kernel_rfl) (fun _ _ _ h => h) (Or.inl ⟨by rfl, ?_⟩) ⟨c3,v0,v1,v2,v3⟩ ?_
            rotate_left
            · intro W hS
              try dsimp only at hS
              go_split_ands
              go_simp
              try with_reducible rfl
            try simp only [Act.put, List.getElem_toArray, List.getElem_cons_zero, List.getElem_cons_succ, List.setIfInBounds_toArray, List.set_cons_zero, List.set_cons_succ]
            refine till_take (i := 6) (v := ?_) rfl (by kernel_rfl) (fun _ _ _ h => h) (Or.inl ⟨by rfl, ?_⟩) ⟨c3,v0,v1,v2,v3⟩ ?_
            rotate_left
            · intro W hS
              try dsimp only at hS
              go_split_ands
              go_simp
              try with_reducible rfl
            try simp only [Act.put, List.getElem_toArray, List.getElem_cons_zero, List.getElem_cons_succ, List.setIfInBounds_toArray, List.set_cons_zero, List.set_cons_succ]
            refine till_one (i := 7) (by kernel_rfl) rfl (fun K' hK => ?_)
            go_simp
            have HWd := Lib.hid (HB3.out.drew)
            go_at_call 52
            (with_reducible refine (wpath_any p (k : Int) ap lp cp _ (HPP.out.kept (Kept.of_below HWd.out [])) HN.out (by unfold I64; omega) (by omega)).mono ?_)
            rintro y w5 ⟨⟨a5, c5, rfl, hS5⟩, b5⟩
            have HW5 := Lib.hid (HWd.out.trans (b5.mono HWd.out.size))
            have HPH5 := Lib.hid ((HPH3.out.kept (Kept.of_below (Below.refl _ _).drew [])).kept (Kept.of_below b5 []))
            have HSC5 := Lib.hid ((HSC.out.kept (Kept.of_below (Below.refl _ _).drew [])).kept (Kept.of_below b5 []))
            have HS5 := Lib.hid hS5
            have u0 := cell_up (w := w3.drew) v0 b5
            have u1 := cell_up (w := w3.drew) v1 b5
            have u2 := cell_up (w := w3.drew) v2 b5
            have u3 := cell_up (w := w3.drew) v3 b5
            have u4 := cell_up (w := w3.drew) c3 b5
            clear b5 v0 v1 v2 v3 c0 c1 c2 c3 HSC HPH3 HB3 HWd hS5
            refine hK _ _ ⟨u4,u0,u1,u2,u3⟩ ?_
            clear hK K'
            try simp only [Act.put, List.getElem_toArray, List.getElem_cons_zero, List.getElem_cons_succ, List.setIfInBounds_toArray, List.set_cons_zero, List.set_cons_succ]
            refine till_last (by kernel_rfl) rfl (by kernel_rfl) (fun K' hK => ?_)
            go_simp
            go_at_call 51
            (with_reducible refine (HC2.out _ (p ++ [(k : Int)]) a5 (lp + 1) c5 w5 HSC5.out HS5.out (fun h => absurd h (by omega)) (by omega)).mono ?_)
            rintro y w6 ⟨⟨a6, c6, rfl, hS6, hn6⟩, b6⟩
            have HW6 := Lib.hid (HW5.out.trans (b6.mono HW5.out.size))
            have HPH6 := Lib.hid (HPH5.out.kept (Kept.of_below b6 []))
            have HR6 : Hid (PathH w6 (refE c (p ++ [(k : Int)])) a6 c6) := ⟨hS6, hn6⟩
            clear b6 u0 u1 u2 u3 u4 HC2 HSC5 HS5 HPH5 HW5 hS6 hn6
            generalize refE c (p ++ [(k : Int)]) = q at *
            refine hK _ _ ?_
            clear hK K'
            try simp only [Act.put, List.getElem_toArray, List.getElem_cons_zero, List.getElem_cons_succ, List.setIfInBounds_toArray, List.set_cons_zero, List.set_cons_succ]
            refine any_take (i := 9) (v := ?_) rfl (by kernel_rfl) (fun _ _ _ h => h) (Or.inl ⟨by rfl, ?_⟩) ?_
            rotate_left
            · intro W
              go_simp
              try with_reducible rfl
            try simp only [Act.put, List.getElem_toArray, List.getElem_cons_zero, List.getElem_cons_succ, List.setIfInBounds_toArray, List.set_cons_zero, List.set_cons_succ]
            refine any_take (i := 10) (v := ?_) rfl (by kernel_rfl) (fun _ _ _ h => h) (Or.inl ⟨by rfl, ?_⟩) ?_
            rotate_left
            · intro W
              go_simp
              try with_reducible rfl
            try simp only [Act.put, List.getElem_toArray, List.getElem_cons_zero, List.getElem_cons_succ, List.setIfInBounds_toArray, List.set_cons_zero, List.set_cons_succ]
            refine any_take (i := 11) (v := ?_) rfl (by kernel_rfl) (fun _ _ _ h => h) (Or.inl ⟨by rfl, ?_⟩) ?_
            rotate_left
            · intro W
              go_simp
              try with_reducible rfl
            try simp only [Act.put, List.getElem_toArray, List.getElem_cons_zero, List.getElem_cons_succ, List.setIfInBounds_toArray, List.set_cons_zero, List.set_cons_succ]
            refine any_take (i := 12) (v := ?_) rfl (by kernel_rfl) (fun _ _ _ h => h) (Or.inl ⟨by rfl, ?_⟩) ?_
            rotate_left
            · intro W
              go_simp
              try with_reducible rfl
            try simp only [Act.put, List.getElem_toArray, List.getElem_cons_zero, List.getElem_cons_succ, List.setIfInBounds_toArray, List.set_cons_zero, List.set_cons_succ]
            refine any_take (i := 13) (v := ?_) rfl (by kernel_rfl) (fun _ _ _ h => h) (Or.inl ⟨by rfl, ?_⟩) ?_
            rotate_left
            · intro W
              go_simp
              try with_reducible rfl
            try simp only [Act.put, List.getElem_toArray, List.getElem_cons_zero, List.getElem_cons_succ, List.setIfInBounds_toArray, List.set_cons_zero, List.set_cons_succ]
            refine wpAny_done (by kernel_rfl) ?_ _
            have HBT := Lib.hid (better_any o q ab a6 cb c6 w6 HPH6.out HR6.out)
            generalize hq1 : (pth q).length = lq at *
            generalize hq2 : q.isSome = bq at *
            have HBT' := Lib.hid HBT.out
            clear HBT hq1 hq2
            go_wp2_with fail
            go_at_call 53
            (with_reducible refine HBT'.out.mono ?_)
            rintro y w7 ⟨⟨a7, c7, rfl, hS7, hn7⟩, b7⟩
            have HW7 := Lib.hid (HW6.out.trans (b7.mono HW6.out.size))
            have HP7 : Hid (PathH w7 (bet o q) a7 c7) := ⟨hS7, hn7⟩
            clear b7 HW6 HPH6 HR6 hS7 hn7 HBT'
            rw [← HRG.out] at HP7
            go_wp2_with fail
            go_roundw
            case rel => exact ⟨k + 1, o2, a7, c7, _, by go_num, by rw [HRG.out], by rw [HRG.out], rfl, by omega, HO2.out, HW2.out, HP7.out, HW7.out⟩
            case measure => simp [intOf]; omega
          · have hw2 : wh2 = true := by rw [HWS.out]; simp [hkc]
            subst hw2
            generalize kE c = kc at *
            have hkc1 : (kc == 0) = false := beq_eq_false_iff_ne.2 hkc
            have hkc2 : (kc != 0) = true := by simp [bne, hkc1]
            clear HWS hkc
            go_wp2_with fail
            refine wp_region_till (S := fun W => W.cell? ⟨w.heap.size, 3, none⟩ = some (.slice (some ⟨b, o9, none⟩) len cap) ∧ W.cell? ⟨b, o9 + k * 4, none⟩ = some (.int .i64 cop) ∧ W.cell? ⟨b, o9 + k * 4 + 1, none⟩ = some (.int .i64 cn) ∧ W.cell? ⟨b, o9 + k * 4 + 2, none⟩ = some (.string cnm) ∧ W.cell? ⟨b, o9 + k * 4 + 3, none⟩ = some (.slice ca clen ccap)) 8 (by kernel_rfl) ?_
            refine till_take (i := 0) (v := ?_) rfl (by kernel_rfl) (fun _ _ _ h => h) (Or.inl ⟨by rfl, ?_⟩) ⟨c3,v0,v1,v2,v3⟩ ?_
            rotate_left
            · intro W hS
              try dsimp only at hS
              go_split_ands
              go_simp
              try with_reducible rfl
            try simp only [Act.put, List.getElem_toArray, List.getElem_cons_zero, List.getElem_cons_succ, List.setIfInBounds_toArray, List.set_cons_zero, List.set_cons_succ]
            refine till_take (i := 1) (v := ?_) rfl (by kernel_rfl) (fun _ _ _ h => h) (Or.inl ⟨by rfl, ?_⟩) ⟨c3,v0,v1,v2,v3⟩ ?_
            rotate_left
            · intro W hS
              try dsimp only at hS
              go_split_ands
              go_simp
              try with_reducible rfl
            try simp only [Act.put, List.getElem_toArray, List.getElem_cons_zero, List.getElem_cons_succ, List.setIfInBounds_toArray, List.set_cons_zero, List.set_cons_succ]
            refine till_take (i := 2) (v := ?_) rfl (by kernel_rfl) (fun _ _ _ h => h) (Or.inl ⟨by rfl, ?_⟩) ⟨c3,v0,v1,v2,v3⟩ ?_
            rotate_left
            · intro W hS
              try dsimp only at hS
              go_split_ands
              go_simp
              try with_reducible rfl
            try simp only [Act.put, List.getElem_toArray, List.getElem_cons_zero, List.getElem_cons_succ, List.setIfInBounds_toArray, List.set_cons_zero, List.set_cons_succ]
            refine till_take (i := 3) (v := ?_) rfl (by kernel_rfl) (fun _ _ _ h => h) (Or.inl ⟨by rfl, ?_⟩) ⟨c3,v0,v1,v2,v3⟩ ?_
            rotate_left
            · intro W hS
              try dsimp only at hS
              go_split_ands
              go_simp
              try with_reducible rfl
            try simp only [Act.put, List.getElem_toArray, List.getElem_cons_zero, List.getElem_cons_succ, List.setIfInBounds_toArray, List.set_cons_zero, List.set_cons_succ]
            refine till_take (i := 4) (v := ?_) rfl (by kernel_rfl) (fun _ _ _ h => h) (Or.inl ⟨by rfl, ?_⟩) ⟨c3,v0,v1,v2,v3⟩ ?_
            rotate_left
            · intro W hS
              try dsimp only at hS
              go_split_ands
              go_simp
              try with_reducible rfl
            try simp only [Act.put, List.getElem_toArray, List.getElem_cons_zero, List.getElem_cons_succ, List.setIfInBounds_toArray, List.set_cons_zero, List.set_cons_succ]
            refine till_take (i := 5) (v := ?_) rfl (by kernel_rfl) (fun _ _ _ h => h) (Or.inl ⟨by rfl, ?_⟩) ⟨c3,v0,v1,v2,v3⟩ ?_
            rotate_left
            · intro W hS
              try dsimp only at hS
              go_split_ands
              go_simp
              try with_reducible rfl
            try simp only [Act.put, List.getElem_toArray, List.getElem_cons_zero, List.getElem_cons_succ, List.setIfInBounds_toArray, List.set_cons_zero, List.set_cons_succ]
            refine till_take (i := 6) (v := ?_) rfl (by kernel_rfl) (fun _ _ _ h => h) (Or.inl ⟨by rfl, ?_⟩) ⟨c3,v0,v1,v2,v3⟩ ?_
            rotate_left
            · intro W hS
              try dsimp only at hS
              go_split_ands
              go_simp
              try with_reducible rfl
            try simp only [Act.put, List.getElem_toArray, List.getElem_cons_zero, List.getElem_cons_succ, List.setIfInBounds_toArray, List.set_cons_zero, List.set_cons_succ]
            refine till_one (i := 7) (by kernel_rfl) rfl (fun K' hK => ?_)
            go_simp
            have HWd := Lib.hid (HB3.out.drew)
            go_at_call 52
            (with_reducible refine (wpath_any p (k : Int) ap lp cp _ (HPP.out.kept (Kept.of_below HWd.out [])) HN.out (by unfold I64; omega) (by omega)).mono ?_)
            rintro y w5 ⟨⟨a5, c5, rfl, hS5⟩, b5⟩
            have HW5 := Lib.hid (HWd.out.trans (b5.mono HWd.out.size))
            have HPH5 := Lib.hid ((HPH3.out.kept (Kept.of_below (Below.refl _ _).drew [])).kept (Kept.of_below b5 []))
            have HSC5 := Lib.hid ((HSC.out.kept (Kept.of_below (Below.refl _ _).drew [])).kept (Kept.of_below b5 []))
            have HS5 := Lib.hid hS5
            have u0 := cell_up (w := w3.drew) v0 b5
            have u1 := cell_up (w := w3.drew) v1 b5
            have u2 := cell_up (w := w3.drew) v2 b5
            have u3 := cell_up (w := w3.drew) v3 b5
            have u4 := cell_up (w := w3.drew) c3 b5
            clear b5 v0 v1 v2 v3 c0 c1 c2 c3 HSC HPH3 HB3 HWd hS5
            refine hK _ _ ⟨u4,u0,u1,u2,u3⟩ ?_
            clear hK K'
            try simp only [Act.put, List.getElem_toArray, List.getElem_cons_zero, List.getElem_cons_succ, List.setIfInBounds_toArray, List.set_cons_zero, List.set_cons_succ]
            refine till_last (by kernel_rfl) rfl (by kernel_rfl) (fun K' hK => ?_)
            go_simp
            go_at_call 51
            (with_reducible refine (HC2.out _ (p ++ [(k : Int)]) a5 (lp + 1) c5 w5 HSC5.out HS5.out (fun h => absurd h (by omega)) (by omega)).mono ?_)
            rintro y w6 ⟨⟨a6, c6, rfl, hS6, hn6⟩, b6⟩
            have HW6 := Lib.hid (HW5.out.trans (b6.mono HW5.out.size))
            have HPH6 := Lib.hid (HPH5.out.kept (Kept.of_below b6 []))
            have HR6 : Hid (PathH w6 (refE c (p ++ [(k : Int)])) a6 c6) := ⟨hS6, hn6⟩
            clear b6 u0 u1 u2 u3 u4 HC2 HSC5 HS5 HPH5 HW5 hS6 hn6
            generalize refE c (p ++ [(k : Int)]) = q at *
            refine hK _ _ ?_
            clear hK K'
            try simp only [Act.put, List.getElem_toArray, List.getElem_cons_zero, List.getElem_cons_succ, List.setIfInBounds_toArray, List.set_cons_zero, List.set_cons_succ]
            refine any_take (i := 9) (v := ?_) rfl (by kernel_rfl) (fun _ _ _ h => h) (Or.inl ⟨by rfl, ?_⟩) ?_
            rotate_left
            · intro W
              go_simp
              try with_reducible rfl
            try simp only [Act.put, List.getElem_toArray, List.getElem_cons_zero, List.getElem_cons_succ, List.setIfInBounds_toArray, List.set_cons_zero, List.set_cons_succ]
            refine any_take (i := 10) (v := ?_) rfl (by kernel_rfl) (fun _ _ _ h => h) (Or.inl ⟨by rfl, ?_⟩) ?_
            rotate_left
            · intro W
              go_simp
              try with_reducible rfl
            try simp only [Act.put, List.getElem_toArray, List.getElem_cons_zero, List.getElem_cons_succ, List.setIfInBounds_toArray, List.set_cons_zero, List.set_cons_succ]
            refine any_take (i := 11) (v := ?_) rfl (by kernel_rfl) (fun _ _ _ h => h) (Or.inl ⟨by rfl, ?_⟩) ?_
            rotate_left
            · intro W
              go_simp
              try with_reducible rfl
            try simp only [Act.put, List.getElem_toArray, List.getElem_cons_zero, List.getElem_cons_succ, List.setIfInBounds_toArray, List.set_cons_zero, List.set_cons_succ]
            refine any_take (i := 12) (v := ?_) rfl (by kernel_rfl) (fun _ _ _ h => h) (Or.inl ⟨by rfl, ?_⟩) ?_
            rotate_left
            · intro W
              go_simp
              try with_reducible rfl
            try simp only [Act.put, List.getElem_toArray, List.getElem_cons_zero, List.getElem_cons_succ, List.setIfInBounds_toArray, List.set_cons_zero, List.set_cons_succ]
            refine any_take (i := 13) (v := ?_) rfl (by kernel_rfl) (fun _ _ _ h => h) (Or.inl ⟨by rfl, ?_⟩) ?_
            rotate_left
            · intro W
              go_simp
              try with_reducible rfl
            try simp only [Act.put, List.getElem_toArray, List.getElem_cons_zero, List.getElem_cons_succ, List.setIfInBounds_toArray, List.set_cons_zero, List.set_cons_succ]
            refine wpAny_done (by kernel_rfl) ?_ _
            have HBT := Lib.hid (better_any o q ab a6 cb c6 w6 HPH6.out HR6.out)
            generalize hq1 : (pth q).length = lq at *
            generalize hq2 : q.isSome = bq at *
            have HBT' := Lib.hid HBT.out
            clear HBT hq1 hq2
            go_wp2_with fail
            go_at_call 53
            (with_reducible refine HBT'.out.mono ?_)
            rintro y w7 ⟨⟨a7, c7, rfl, hS7, hn7⟩, b7⟩
            have HW7 := Lib.hid (HW6.out.trans (b7.mono HW6.out.size))
            have HP7 : Hid (PathH w7 (bet o q) a7 c7) := ⟨hS7, hn7⟩
            clear b7 HW6 HPH6 HR6 hS7 hn7 HBT'
            rw [← HRG.out] at HP7
            go_wp2_with fail
            go_roundw
            case rel => exact ⟨k + 1, o2, a7, c7, _, by go_num, by rw [HRG.out], by rw [HRG.out], rfl, by omega, HO2.out, HW2.out, HP7.out, HW7.out⟩
            case measure => simp [intOf]; omega
      · have hk' : ¬ (k : Int) < (len : Int) := by omega
        obtain rfl : k = len := by omega
        rw [← HL.out] at HO HWH
        rw [← HO.out, ← HWH.out] at HEND
        clear HI HKI HSS hlt HO HWH
        have HKC := Lib.hid (HKD.out wr (by have := HB0.out.trans (HB.out.mono HB0.out.size); exact this))
        have HBT : Hid (∀ W, Below wr.heap.size wr W → Calls Try.prog 53 #[.slice ab (pth o).length cb, .bool o.isSome, .slice ap lp cp, .bool true] W fun e w' => PathR w' (bet o (some p)) e ∧ Below W.heap.size W w') := fun W hW => by
          have h := better_any o (some p) ab ap cb cp W (HPH.out.kept (Kept.of_below hW [])) ⟨by have h := (HPP.out.kept (Kept.of_below HB.out [])).kept (Kept.of_below hW []); rw [← HPL.out] at h; exact h, fun h => HN.out (by rw [← HPL.out]; exact h)⟩
          rw [show (pth (some p)).length = lp from HPL.out] at h
          exact h
        have HFW : Hid (∀ W, Below wr.heap.size wr W → PathR W o (.returned (.tuple #[.slice ab (pth o).length cb, .bool o.isSome]))) := fun W hW => ⟨ab, cb, rfl, HPH.out.1.kept (Kept.of_below hW []), HPH.out.2⟩
        have HBW := Lib.hid (HB0.out.trans (HB.out.mono HB0.out.size))
        clear HPH HPP HN HPL HL HB HB0 BX HKD
        generalize (pth o).length = lo at *
        generalize o.isSome = bo at *
        go_wp2_with fail
        go_at_call 25
        (with_reducible refine HKC.out.mono ?_)
        rintro y w3 ⟨rfl, b3⟩
        have HW3 := Lib.hid b3
        have HB3 := Lib.hid (HBW.out.trans (b3.mono HBW.out.size))
        clear b3 HKC c0 c1 c2 c3 HBW
        by_cases hke : ke = 0
        · cases wh with
          | true =>
            have hR : R = bet o (some p) := by rw [HEND.out, if_pos ⟨hke, rfl⟩]
            subst hke
            clear HEND HFW
            subst hR
            go_wp2_with fail
            go_at_call 53
            (with_reducible refine (HBT.out w3 HW3.out).mono ?_)
            rintro y w4 ⟨⟨a7, c7, rfl, hS7, hn7⟩, b4⟩
            have HB4 := Lib.hid (HB3.out.trans (b4.mono HB3.out.size))
            have HP7 : Hid (PathR w4 (bet o (some p)) (.returned (.tuple #[.slice a7 (pth (bet o (some p))).length c7, .bool (bet o (some p)).isSome]))) := ⟨a7, c7, rfl, hS7, hn7⟩
            clear b4 HB3 HW3 HBT hS7 hn7
            generalize (pth (bet o (some p))).length = l7 at *
            generalize (bet o (some p)).isSome = b7 at *
            go_wp2_with fail
            go_ret2
            exact ⟨HP7.out, HB4.out⟩
          | false =>
            have hR : R = o := by rw [HEND.out, if_neg (fun h => by cases h.2)]
            subst hke
            have HF := Lib.hid (HFW.out w3 HW3.out)
            clear HEND HFW HBT HW3
            subst hR
            go_wp2_with fail
            go_ret2
            exact ⟨HF.out, HB3.out⟩
        · have hR : R = o := by rw [HEND.out, if_neg (fun h => hke h.1)]
          have hke1 : (ke == 0) = false := beq_eq_false_iff_ne.2 hke
          have HF := Lib.hid (HFW.out w3 HW3.out)
          clear HEND HFW HBT HW3
          subst hR
          go_wp2_with fail
          go_ret2
          exact ⟨HF.out, HB3.out⟩
end Go.Proofs.Ytppnmeobnilojaa

/- The contract of ref21.Fault; condition: built, paths not too long. -/
namespace Go.Proofs.Ytppnmeobnilojaa
set_option linter.unusedVariables false
set_option linter.unusedSimpArgs false
open Go.RowKit
def stepX (op : Int) (p : List Int) (i : Int) (b : Option (List Int)) (e : Ex) : Option (List Int) :=
  if kE e ≠ 0 ∧ ¬ (op = 6 ↔ kE e = 1) then bet (bet b (refE e (p ++ [i]))) (some (p ++ [i])) else bet b (refE e (p ++ [i]))
theorem refX_snoc {op : Int} {p : List Int} : ∀ (l : List Ex) (i : Nat) (b : Option (List Int)) (e : Ex), refX op p i b (l ++ [e]) = stepX op p ((i + l.length : Nat) : Int) (refX op p i b l) e
  | [], i, b, e => by simp [refX, stepX]
  | x :: t, i, b, e => by
    simp only [List.cons_append, refX, List.length_cons]
    rw [refX_snoc t (i + 1) _ e, show i + 1 + t.length = i + (t.length + 1) by omega]
def refXG (op : Int) (p : List Int) (l : List Ex) (k : Nat) : Option (List Int) := refX op p 0 none (l.take k)
theorem refXG_succ {op : Int} {p : List Int} {l : List Ex} {k : Nat} {e : Ex} (h : l[k]? = some e) : refXG op p l (k + 1) = stepX op p (k : Int) (refXG op p l k) e := by
  obtain ⟨hk, rfl⟩ := List.getElem?_eq_some_iff.1 h
  unfold refXG
  rw [List.take_succ_eq_append_getElem hk, refX_snoc, List.length_take, Nat.min_eq_left (by omega), Nat.zero_add]
theorem refXG_all {op : Int} {p : List Int} {l : List Ex} : refXG op p l l.length = refX op p 0 none l := by unfold refXG; rw [List.take_length]
theorem refT_go_snoc {p : List Int} : ∀ (l : List Te) (i : Nat) (b : Option (List Int)) (e : Te), refT.go p i b (l ++ [e]) = bet (refT.go p i b l) (refT e (p ++ [((i + l.length : Nat) : Int)]))
  | [], i, b, e => by simp [refT.go]
  | x :: t, i, b, e => by
    simp only [List.cons_append, refT.go, List.length_cons]
    rw [refT_go_snoc t (i + 1) _ e, show i + 1 + t.length = i + (t.length + 1) by omega]
def refTG (p : List Int) (n : Nat) (b : Option (List Int)) (l : List Te) (k : Nat) : Option (List Int) := refT.go p n b (l.take k)
theorem refTG_succ {p : List Int} {n : Nat} {b : Option (List Int)} {l : List Te} {k : Nat} {e : Te} (h : l[k]? = some e) : refTG p n b l (k + 1) = bet (refTG p n b l k) (refT e (p ++ [(((n : Nat) : Int) + (k : Int))])) := by
  obtain ⟨hk, rfl⟩ := List.getElem?_eq_some_iff.1 h
  unfold refTG
  rw [List.take_succ_eq_append_getElem hk, refT_go_snoc, List.length_take, Nat.min_eq_left (by omega)]
  simp
theorem refT_mk {op : Int} {nm : ByteArray} {x : List Ex} {l : List Te} {p : List Int} : refT (.mk op nm x l) p = refTG p x.length (refXG op p x x.length) l l.length := by
  unfold refTG; rw [refXG_all, List.take_length, refT]
set_option maxRecDepth 100000 in
set_option maxHeartbeats 8000000 in
theorem rfault_any : ∀ (r : Nat) (e : Te), e.rk ≤ r → bT e = true → ∀ (cs : List Value) (p : List Int) (ap : Option Addr) (lp cp : Nat) (w : World), RepT w [] e cs → SlR i64K w [] p ap lp cp → (lp = 0 → ap = none) → lp + r ≤ 2000 →
    Calls Try.prog 19 #[.agg cs.toArray, .slice ap lp cp] w fun x w' => PathR w' (refT e p) x ∧ Below w.heap.size w w' := by
  intro r
  induction r with
  | zero => intro e h; have := e.rk_pos; omega
  | succ r ih =>
    intro e hr hb cs p ap lp cp w hR hP hn hlp
    obtain ⟨op, nm, ex, te, a, len, cap, a2, len2, cap2, rfl, rfl, i1, i2, hS, hS2⟩ := hR.inv
    obtain ⟨g1, g2, g3, g4, g5⟩ := bT_inv hb
    obtain ⟨f1, f2, f3⟩ := hS.facts
    obtain ⟨f4, f5, f6⟩ := hS2.facts
    obtain ⟨q1, q2, q3⟩ := hP.facts
    have hlen3 : len ≤ 3 := by have := arX_le3 op; omega
    have hlen4 : len2 ≤ 3 := by have := arT_le3 op; omega
    have HIX : Hid (∀ (k : Nat) e1, ex[k]? = some e1 → ∀ cs1 p1 ap1 lp1 cp1 W, RepE W [] e1 cs1 → SlR i64K W [] p1 ap1 lp1 cp1 → (lp1 = 0 → ap1 = none) → lp1 ≤ lp + 1 → Calls Try.prog 51 #[.agg cs1.toArray, .slice ap1 lp1 cp1] W fun x w' => PathR w' (refE e1 p1) x ∧ Below W.heap.size W w') := by
      intro k e1 hk cs1 p1 ap1 lp1 cp1 W hR1 hP1 hn1 hl1
      exact rexprs_any e1.rk e1 (Nat.le_refl _) (g4 e1 (List.mem_of_getElem? hk)) cs1 p1 ap1 lp1 cp1 W hR1 hP1 hn1 (by have := Ex.rkx_lt (op := op) (nm := nm) (l := te) hk; omega)
    have HKI : Hid (∀ (k : Nat) e1, ex[k]? = some e1 → ∀ cs1 W, RepE W [] e1 cs1 → Calls Try.prog 25 #[.agg cs1.toArray] W fun x w' => x = .returned (.int .i64 (kE e1)) ∧ Below W.heap.size W w') := fun k e1 hk cs1 W hR1 => rkind_any e1.rk e1 (Nat.le_refl _) (g4 e1 (List.mem_of_getElem? hk)) cs1 W hR1
    have HIT : Hid (∀ (k : Nat) e1, te[k]? = some e1 → ∀ cs1 p1 ap1 lp1 cp1 W, RepT W [] e1 cs1 → SlR i64K W [] p1 ap1 lp1 cp1 → (lp1 = 0 → ap1 = none) → lp1 ≤ lp + 1 → Calls Try.prog 19 #[.agg cs1.toArray, .slice ap1 lp1 cp1] W fun x w' => PathR w' (refT e1 p1) x ∧ Below W.heap.size W w') := by
      intro k e1 hk cs1 p1 ap1 lp1 cp1 W hR1 hP1 hn1 hl1
      exact ih e1 (by have := Te.rk_lt (op := op) (nm := nm) (x := ex) hk; omega) (g5 e1 (List.mem_of_getElem? hk)) cs1 p1 ap1 lp1 cp1 W hR1 hP1 hn1 (by omega)
    have HEND := Lib.hid (@refT_mk op nm ex te p)
    have HB0 := Lib.hid ((Below.refl w.heap.size w).alloc (Nat.le_refl _) (.cells #[.int .i64 op, .string nm, .slice a len cap, .slice a2 len2 cap2] 35))
    have BX := Lib.hid (Mem.Blk.new w 35 #[.int .i64 op, .string nm, .slice a len cap, .slice a2 len2 cap2])
    have HSS := Lib.hid (hS.kept (Kept.of_below HB0.out []))
    have HST := Lib.hid (hS2.kept (Kept.of_below HB0.out []))
    have HPP := Lib.hid (hP.kept (Kept.of_below HB0.out []))
    have HL := Lib.hid f1
    have HL2 := Lib.hid f4
    have HPL := Lib.hid q1
    have HN := Lib.hid hn
    rw [f1, f4] at HEND
    clear ih hr hR hS hS2 i1 i2 f1 f4 g1 g2 g3 g4 g5 hb hP hn q1
    generalize refT (.mk op nm ex te) p = R at *
    go_enter Try.func19, Try.ntmps19
    go_upto_region 4 with (fail)
    generalize w.alloc (.cells #[.int .i64 op, .string nm, .slice a len cap, .slice a2 len2 cap2] 35) = v at *
    go_loopw [6, 7, 8] (fun vb vf i wr => ∃ (k : Nat) (o : Option (List Int)) (ab : Option Addr) (cb : Nat), i = .int .i64 (k : Nat) ∧ vb = .slice ab (pth o).length cb ∧ vf = .bool o.isSome ∧ k ≤ len ∧ Hid (o = refXG op p ex k) ∧ Hid (PathH wr o ab cb) ∧ Hid (Below v.heap.size v wr)) (fun _ _ i _ => len - (intOf i).toNat)
    case atStart => exact ⟨0, none, none, 0, rfl, rfl, rfl, Nat.zero_le _, rfl, ⟨SlR.nil _ _ _, fun _ => rfl⟩, Below.refl _ _⟩
    case round =>
      obtain ⟨k, o, ab, cb, rfl, rfl, rfl, hk, HO, HPH, HB⟩ := hrel
      obtain ⟨c0, c1, c2, c3, -, -, -, -⟩ := blk4 (BX.out.below HB.out)
      by_cases hlt : k < len
      · obtain ⟨b, o9, cop, cn, cnm, cargs, ca, clen, ccap, rfl, -, -, hxe, j1, j2, j3, hSc, v0, v1, v2, v3⟩ := (HSS.out.kept (Kept.of_below HB.out [])).at k hlt
        have j1' : (k : Int) < (len : Int) := by omega
        have j0' : (0 : Int) ≤ (k : Int) := by omega
        have HRG := Lib.hid (refXG_succ (op := op) (p := p) hxe)
        have HSC := Lib.hid (RepE.mk' j1 j2 j3 hSc)
        have HC1 := Lib.hid (HKI.out k _ hxe)
        have HC2 := Lib.hid (HIX.out k _ hxe)
        clear hxe j1 j2 j3 hSc
        obtain ⟨o2, ho2⟩ : ∃ o2, o2 = refXG op p ex (k + 1) := ⟨_, rfl⟩
        rw [← ho2] at HRG
        have HO2 := Lib.hid ho2
        clear ho2
        generalize Ex.mk cop cn cnm cargs = c at *
        rw [← HO.out] at HRG
        have HST' := Lib.hid (show stepX op p (k : Int) o c = if kE c ≠ 0 ∧ ¬ (op = 6 ↔ kE c = 1) then bet (bet o (refE c (p ++ [(k : Int)]))) (some (p ++ [(k : Int)])) else bet o (refE c (p ++ [(k : Int)])) from rfl)
        rw [HST'.out] at HRG
        clear HST'
        go_wp2_with fail
        go_at_call 25
        (with_reducible refine (HC1.out _ wr HSC.out).mono ?_)
        rintro y w3 ⟨rfl, b3⟩
        have HB3 := Lib.hid (HB.out.trans (b3.mono HB.out.size))
        have HPH3 := Lib.hid (HPH.out.kept (Kept.of_below b3 []))
        have HSC3 := Lib.hid (HSC.out.kept (Kept.of_below b3 []))
        have u0 := cell_up v0 b3
        have u1 := cell_up v1 b3
        have u2 := cell_up v2 b3
        have u3 := cell_up v3 b3
        clear b3 v0 v1 v2 v3 c0 c1 c2 c3 HSC HPH HB HC1 HO
        obtain ⟨c0, c1, c2, c3, -, -, -, -⟩ := blk4 (BX.out.below HB3.out)
        go_wp2_with fail
        refine wp_region_till (S := fun W => W.cell? ⟨w.heap.size, 2, none⟩ = some (.slice (some ⟨b, o9, none⟩) len cap) ∧ W.cell? ⟨b, o9 + k * 4, none⟩ = some (.int .i64 cop) ∧ W.cell? ⟨b, o9 + k * 4 + 1, none⟩ = some (.int .i64 cn) ∧ W.cell? ⟨b, o9 + k * 4 + 2, none⟩ = some (.string cnm) ∧ W.cell? ⟨b, o9 + k * 4 + 3, none⟩ = some (.slice ca clen ccap)) 8 (by kernel_rfl) ?_
        refine till_take (i := 0) (v := ?_) rfl (by kernel_rfl) (fun _ _ _ h => h) (Or.inl ⟨by rfl, ?_⟩) ⟨c2,u0,u1,u2,u3⟩ ?_
        rotate_left
        · intro W hS
          try dsimp only at hS
          go_split_ands
          go_simp
          try with_reducible rfl
        try simp only [Act.put, List.getElem_toArray, List.getElem_cons_zero, List.getElem_cons_succ, List.setIfInBounds_toArray, List.set_cons_zero, List.set_cons_succ]
        refine till_take (i := 1) (v := ?_) rfl (by kernel_rfl) (fun _ _ _ h => h) (Or.inl ⟨by rfl, ?_⟩) ⟨c2,u0,u1,u2,u3⟩ ?_
        rotate_left
        · intro W hS
          try dsimp only at hS
          go_split_ands
          go_simp
          try with_reducible rfl
        try simp only [Act.put, List.getElem_toArray, List.getElem_cons_zero, List.getElem_cons_succ, List.setIfInBounds_toArray, List.set_cons_zero, List.set_cons_succ]
        refine till_take (i := 2) (v := ?_) rfl (by kernel_rfl) (fun _ _ _ h => h) (Or.inl ⟨by rfl, ?_⟩) ⟨c2,u0,u1,u2,u3⟩ ?_
        rotate_left
        · intro W hS
          try dsimp only at hS
          go_split_ands
          go_simp
          try with_reducible rfl
        try simp only [Act.put, List.getElem_toArray, List.getElem_cons_zero, List.getElem_cons_succ, List.setIfInBounds_toArray, List.set_cons_zero, List.set_cons_succ]
        refine till_take (i := 3) (v := ?_) rfl (by kernel_rfl) (fun _ _ _ h => h) (Or.inl ⟨by rfl, ?_⟩) ⟨c2,u0,u1,u2,u3⟩ ?_
        rotate_left
        · intro W hS
          try dsimp only at hS
          go_split_ands
          go_simp
          try with_reducible rfl
        try simp only [Act.put, List.getElem_toArray, List.getElem_cons_zero, List.getElem_cons_succ, List.setIfInBounds_toArray, List.set_cons_zero, List.set_cons_succ]
        refine till_take (i := 4) (v := ?_) rfl (by kernel_rfl) (fun _ _ _ h => h) (Or.inl ⟨by rfl, ?_⟩) ⟨c2,u0,u1,u2,u3⟩ ?_
        rotate_left
        · intro W hS
          try dsimp only at hS
          go_split_ands
          go_simp
          try with_reducible rfl
        try simp only [Act.put, List.getElem_toArray, List.getElem_cons_zero, List.getElem_cons_succ, List.setIfInBounds_toArray, List.set_cons_zero, List.set_cons_succ]
        refine till_take (i := 5) (v := ?_) rfl (by kernel_rfl) (fun _ _ _ h => h) (Or.inl ⟨by rfl, ?_⟩) ⟨c2,u0,u1,u2,u3⟩ ?_
        rotate_left
        · intro W hS
          try dsimp only at hS
          go_split_ands
          go_simp
          try with_reducible rfl
        try simp only [Act.put, List.getElem_toArray, List.getElem_cons_zero, List.getElem_cons_succ, List.setIfInBounds_toArray, List.set_cons_zero, List.set_cons_succ]
        refine till_take (i := 6) (v := ?_) rfl (by kernel_rfl) (fun _ _ _ h => h) (Or.inl ⟨by rfl, ?_⟩) ⟨c2,u0,u1,u2,u3⟩ ?_
        rotate_left
        · intro W hS
          try dsimp only at hS
          go_split_ands
          go_simp
          try with_reducible rfl
        try simp only [Act.put, List.getElem_toArray, List.getElem_cons_zero, List.getElem_cons_succ, List.setIfInBounds_toArray, List.set_cons_zero, List.set_cons_succ]
        refine till_one (i := 7) (by kernel_rfl) rfl (fun K' hK => ?_)
        go_simp
        have HWd := Lib.hid (HB3.out.drew)
        go_at_call 52
        (with_reducible refine (wpath_any p (k : Int) ap lp cp _ (HPP.out.kept (Kept.of_below HWd.out [])) HN.out (by unfold I64; omega) (by omega)).mono ?_)
        rintro y w5 ⟨⟨a5, c5, rfl, hS5⟩, b5⟩
        have HW5 := Lib.hid (HWd.out.trans (b5.mono HWd.out.size))
        have HPH5 := Lib.hid ((HPH3.out.kept (Kept.of_below (Below.refl _ _).drew [])).kept (Kept.of_below b5 []))
        have HSC5 := Lib.hid ((HSC3.out.kept (Kept.of_below (Below.refl _ _).drew [])).kept (Kept.of_below b5 []))
        have HS5 := Lib.hid hS5
        have t0 := cell_up (w := w3.drew) u0 b5
        have t1 := cell_up (w := w3.drew) u1 b5
        have t2 := cell_up (w := w3.drew) u2 b5
        have t3 := cell_up (w := w3.drew) u3 b5
        have t4 := cell_up (w := w3.drew) c2 b5
        clear b5 u0 u1 u2 u3 c0 c1 c2 c3 HSC3 HPH3 HB3 HWd hS5
        refine hK _ _ ⟨t4,t0,t1,t2,t3⟩ ?_
        clear hK K'
        try simp only [Act.put, List.getElem_toArray, List.getElem_cons_zero, List.getElem_cons_succ, List.setIfInBounds_toArray, List.set_cons_zero, List.set_cons_succ]
        refine till_last (by kernel_rfl) rfl (by kernel_rfl) (fun K' hK => ?_)
        go_simp
        go_at_call 51
        (with_reducible refine (HC2.out _ (p ++ [(k : Int)]) a5 (lp + 1) c5 w5 HSC5.out HS5.out (fun h => absurd h (by omega)) (by omega)).mono ?_)
        rintro y w6 ⟨⟨a6, c6, rfl, hS6, hn6⟩, b6⟩
        have HW6 := Lib.hid (HW5.out.trans (b6.mono HW5.out.size))
        have HPH6 := Lib.hid (HPH5.out.kept (Kept.of_below b6 []))
        have HR6 : Hid (PathH w6 (refE c (p ++ [(k : Int)])) a6 c6) := ⟨hS6, hn6⟩
        clear b6 t0 t1 t2 t3 t4 HC2 HSC5 HS5 HPH5 HW5 hS6 hn6
        generalize refE c (p ++ [(k : Int)]) = q at *
        refine hK _ _ ?_
        clear hK K'
        try simp only [Act.put, List.getElem_toArray, List.getElem_cons_zero, List.getElem_cons_succ, List.setIfInBounds_toArray, List.set_cons_zero, List.set_cons_succ]
        refine any_take (i := 9) (v := ?_) rfl (by kernel_rfl) (fun _ _ _ h => h) (Or.inl ⟨by rfl, ?_⟩) ?_
        rotate_left
        · intro W
          go_simp
          try with_reducible rfl
        try simp only [Act.put, List.getElem_toArray, List.getElem_cons_zero, List.getElem_cons_succ, List.setIfInBounds_toArray, List.set_cons_zero, List.set_cons_succ]
        refine any_take (i := 10) (v := ?_) rfl (by kernel_rfl) (fun _ _ _ h => h) (Or.inl ⟨by rfl, ?_⟩) ?_
        rotate_left
        · intro W
          go_simp
          try with_reducible rfl
        try simp only [Act.put, List.getElem_toArray, List.getElem_cons_zero, List.getElem_cons_succ, List.setIfInBounds_toArray, List.set_cons_zero, List.set_cons_succ]
        refine any_take (i := 11) (v := ?_) rfl (by kernel_rfl) (fun _ _ _ h => h) (Or.inl ⟨by rfl, ?_⟩) ?_
        rotate_left
        · intro W
          go_simp
          try with_reducible rfl
        try simp only [Act.put, List.getElem_toArray, List.getElem_cons_zero, List.getElem_cons_succ, List.setIfInBounds_toArray, List.set_cons_zero, List.set_cons_succ]
        refine any_take (i := 12) (v := ?_) rfl (by kernel_rfl) (fun _ _ _ h => h) (Or.inl ⟨by rfl, ?_⟩) ?_
        rotate_left
        · intro W
          go_simp
          try with_reducible rfl
        try simp only [Act.put, List.getElem_toArray, List.getElem_cons_zero, List.getElem_cons_succ, List.setIfInBounds_toArray, List.set_cons_zero, List.set_cons_succ]
        refine any_take (i := 13) (v := ?_) rfl (by kernel_rfl) (fun _ _ _ h => h) (Or.inl ⟨by rfl, ?_⟩) ?_
        rotate_left
        · intro W
          go_simp
          try with_reducible rfl
        try simp only [Act.put, List.getElem_toArray, List.getElem_cons_zero, List.getElem_cons_succ, List.setIfInBounds_toArray, List.set_cons_zero, List.set_cons_succ]
        refine wpAny_done (by kernel_rfl) ?_ _
        have HBT := Lib.hid (better_any o q ab a6 cb c6 w6 HPH6.out HR6.out)
        generalize hq1 : (pth q).length = lq at *
        generalize hq2 : q.isSome = bq at *
        have HBT' := Lib.hid HBT.out
        clear HBT hq1 hq2
        go_wp2_with fail
        go_at_call 53
        (with_reducible refine HBT'.out.mono ?_)
        rintro y w7 ⟨⟨a7, c7, rfl, hS7, hn7⟩, b7⟩
        have HW7 := Lib.hid (HW6.out.trans (b7.mono HW6.out.size))
        have HP7 : Hid (PathH w7 (bet o q) a7 c7) := ⟨hS7, hn7⟩
        clear b7 HW6 HPH6 HR6 hS7 hn7 HBT'
        generalize bet o q = o7 at *
        have hkb := kE_bd c.rk c (Nat.le_refl _)
        generalize kE c = kc at *
        obtain ⟨c0, c1, c2, c3, -, -, -, -⟩ := blk4 (BX.out.below HW7.out)
        rcases hkb with hkb | hkb | hkb
        · subst hkb
          rw [if_neg (fun h => h.1 rfl)] at HRG
          go_wp2_with fail
          go_roundw
          case rel => exact ⟨k + 1, o7, a7, c7, by go_num, rfl, rfl, by omega, HRG.out.symm.trans HO2.out, HP7.out, HW7.out⟩
          case measure => simp [intOf]; omega
        · subst hkb
          by_cases h6 : op = 6
          · rw [if_neg (fun h => h.2 ⟨fun _ => rfl, fun _ => h6⟩)] at HRG
            have h6' : (op == 6) = true := by rw [h6]; rfl
            have H6 := Lib.hid h6
            clear h6
            go_wp2_with fail
            go_roundw
            case rel => exact ⟨k + 1, o7, a7, c7, by go_num, rfl, rfl, by omega, HRG.out.symm.trans HO2.out, HP7.out, HW7.out⟩
            case measure => simp [intOf]; omega
          · rw [if_pos ⟨by decide, fun h => h6 (h.2 rfl)⟩] at HRG
            have h6' : (op == 6) = false := beq_eq_false_iff_ne.2 h6
            clear h6
            go_wp2_with fail
            go_at_call 52
            (with_reducible refine (wpath_any p (k : Int) ap lp cp _ (HPP.out.kept (Kept.of_below HW7.out [])) HN.out (by unfold I64; omega) (by omega)).mono ?_)
            rintro y w8 ⟨⟨a8, c8, rfl, hS8⟩, b8⟩
            have HW8 := Lib.hid (HW7.out.trans (b8.mono HW7.out.size))
            have hpl : (pth (some (p ++ [(k : Int)]))).length = lp + 1 := by show (p ++ [(k : Int)]).length = _; rw [List.length_append, HPL.out]; rfl
            have hBT := better_any o7 (some (p ++ [(k : Int)])) a7 a8 c7 c8 w8 (HP7.out.kept (Kept.of_below b8 [])) ⟨by rw [hpl]; exact hS8, fun h => absurd h (by rw [hpl]; omega)⟩
            rw [hpl, show (some (p ++ [(k : Int)])).isSome = true from rfl] at hBT
            have HBT := Lib.hid hBT
            clear hBT hpl b8 hS8 HP7 HW7 c0 c1 c2 c3
            generalize (pth o7).length = l7 at *
            generalize o7.isSome = f7 at *
            go_wp2_with fail
            go_at_call 53
            (with_reducible refine HBT.out.mono ?_)
            rintro y w9 ⟨⟨a9, c9, rfl, hS9, hn9⟩, b9⟩
            have HW9 := Lib.hid (HW8.out.trans (b9.mono HW8.out.size))
            have HP9 : Hid (PathH w9 (bet o7 (some (p ++ [(k : Int)]))) a9 c9) := ⟨hS9, hn9⟩
            clear b9 HW8 hS9 hn9 HBT
            go_wp2_with fail
            go_roundw
            case rel => exact ⟨k + 1, _, a9, c9, by go_num, rfl, rfl, by omega, HRG.out.symm.trans HO2.out, HP9.out, HW9.out⟩
            case measure => simp [intOf]; omega
        · subst hkb
          by_cases h6 : op = 6
          · rw [if_pos ⟨by decide, fun h => absurd (h.1 h6) (by decide)⟩] at HRG
            have h6' : (op == 6) = true := by rw [h6]; rfl
            have H6 := Lib.hid h6
            clear h6
            go_wp2_with fail
            go_at_call 52
            (with_reducible refine (wpath_any p (k : Int) ap lp cp _ (HPP.out.kept (Kept.of_below HW7.out [])) HN.out (by unfold I64; omega) (by omega)).mono ?_)
            rintro y w8 ⟨⟨a8, c8, rfl, hS8⟩, b8⟩
            have HW8 := Lib.hid (HW7.out.trans (b8.mono HW7.out.size))
            have hpl : (pth (some (p ++ [(k : Int)]))).length = lp + 1 := by show (p ++ [(k : Int)]).length = _; rw [List.length_append, HPL.out]; rfl
            have hBT := better_any o7 (some (p ++ [(k : Int)])) a7 a8 c7 c8 w8 (HP7.out.kept (Kept.of_below b8 [])) ⟨by rw [hpl]; exact hS8, fun h => absurd h (by rw [hpl]; omega)⟩
            rw [hpl, show (some (p ++ [(k : Int)])).isSome = true from rfl] at hBT
            have HBT := Lib.hid hBT
            clear hBT hpl b8 hS8 HP7 HW7 c0 c1 c2 c3
            generalize (pth o7).length = l7 at *
            generalize o7.isSome = f7 at *
            go_wp2_with fail
            go_at_call 53
            (with_reducible refine HBT.out.mono ?_)
            rintro y w9 ⟨⟨a9, c9, rfl, hS9, hn9⟩, b9⟩
            have HW9 := Lib.hid (HW8.out.trans (b9.mono HW8.out.size))
            have HP9 : Hid (PathH w9 (bet o7 (some (p ++ [(k : Int)]))) a9 c9) := ⟨hS9, hn9⟩
            clear b9 HW8 hS9 hn9 HBT
            go_wp2_with fail
            go_roundw
            case rel => exact ⟨k + 1, _, a9, c9, by go_num, rfl, rfl, by omega, HRG.out.symm.trans HO2.out, HP9.out, HW9.out⟩
            case measure => simp [intOf]; omega
          · rw [if_neg (fun h => h.2 ⟨fun h' => absurd h' h6, fun h' => absurd h' (by decide)⟩)] at HRG
            have h6' : (op == 6) = false := beq_eq_false_iff_ne.2 h6
            clear h6
            go_wp2_with fail
            go_roundw
            case rel => exact ⟨k + 1, o7, a7, c7, by go_num, rfl, rfl, by omega, HRG.out.symm.trans HO2.out, HP7.out, HW7.out⟩
            case measure => simp [intOf]; omega
      · have hk' : ¬ (k : Int) < (len : Int) := by omega
        obtain rfl : k = len := by omega
        rw [← HO.out] at HEND
        obtain ⟨W0, rfl⟩ : ∃ W : World, W = wr := ⟨_, rfl⟩
        clear HIX HKI HSS HO hlt c0 c1 c3 HL
        go_wp2_with fail
        clear c2
        go_loopw [6, 7, 12] (fun vb vf i wr => ∃ (j : Nat) (o2 : Option (List Int)) (ab : Option Addr) (cb : Nat), i = .int .i64 (j : Nat) ∧ vb = .slice ab (pth o2).length cb ∧ vf = .bool o2.isSome ∧ j ≤ len2 ∧ Hid (o2 = refTG p k o te j) ∧ Hid (PathH wr o2 ab cb) ∧ Hid (Below v.heap.size v wr)) (fun _ _ i _ => len2 - (intOf i).toNat)
        case atStart => exact ⟨0, o, ab, cb, rfl, rfl, rfl, Nat.zero_le _, rfl, HPH.out, HB.out⟩
        case round =>
          clear HPH HB
          obtain ⟨j, o3, ab, cb, rfl, rfl, rfl, hj, HO, HPH, HB⟩ := hrel
          obtain ⟨c0, c1, c2, c3, -, -, -, -⟩ := blk4 (BX.out.below HB.out)
          by_cases hlt : j < len2
          · obtain ⟨b, o9, cop, cnm, cex, cte, ca, clen, ccap, cb2, clen2, ccap2, rfl, -, -, hxe, j1, j2, hSc, hTc, v0, v1, v2, v3⟩ := (HST.out.kept (Kept.of_below HB.out [])).at j hlt
            have j1' : (j : Int) < (len2 : Int) := by omega
            have j0' : (0 : Int) ≤ (j : Int) := by omega
            have hsum : IntKind.i64.wrap ((k : Int) + (j : Int)) = (k : Int) + (j : Int) := IntWalk.i64_in _ (by omega)
            have hs64 : I64 ((k : Int) + (j : Int)) := by unfold I64; omega
            have HS64 := Lib.hid hs64
            have HRG := Lib.hid (refTG_succ (p := p) (n := k) (b := o) hxe)
            have HSC := Lib.hid (RepT.mk' j1 j2 hSc hTc)
            have HC2 := Lib.hid (HIT.out j _ hxe)
            clear hxe j1 j2 hSc hTc hs64
            obtain ⟨o2, ho2⟩ : ∃ o2, o2 = refTG p k o te (j + 1) := ⟨_, rfl⟩
            rw [← ho2] at HRG
            have HO2 := Lib.hid ho2
            clear ho2
            generalize Te.mk cop cnm cex cte = c at *
            rw [← HO.out] at HRG
            go_wp2_with fail
            refine wp_region_till (S := fun W => W.cell? ⟨w.heap.size, 2, none⟩ = some (.slice a k cap) ∧ W.cell? ⟨w.heap.size, 3, none⟩ = some (.slice (some ⟨b, o9, none⟩) len2 cap2) ∧ W.cell? ⟨b, o9 + j * 4, none⟩ = some (.int .i64 cop) ∧ W.cell? ⟨b, o9 + j * 4 + 1, none⟩ = some (.string cnm) ∧ W.cell? ⟨b, o9 + j * 4 + 2, none⟩ = some (.slice ca clen ccap) ∧ W.cell? ⟨b, o9 + j * 4 + 3, none⟩ = some (.slice cb2 clen2 ccap2)) 12 (by kernel_rfl) ?_
            refine till_take (i := 0) (v := ?_) rfl (by kernel_rfl) (fun _ _ _ h => h) (Or.inl ⟨by rfl, ?_⟩) ⟨c2,c3,v0,v1,v2,v3⟩ ?_
            rotate_left
            · intro W hS
              try dsimp only at hS
              go_split_ands
              go_simp
              try with_reducible rfl
            try simp only [Act.put, List.getElem_toArray, List.getElem_cons_zero, List.getElem_cons_succ, List.setIfInBounds_toArray, List.set_cons_zero, List.set_cons_succ]
            refine till_take (i := 1) (v := ?_) rfl (by kernel_rfl) (fun _ _ _ h => h) (Or.inl ⟨by rfl, ?_⟩) ⟨c2,c3,v0,v1,v2,v3⟩ ?_
            rotate_left
            · intro W hS
              try dsimp only at hS
              go_split_ands
              go_simp
              try with_reducible rfl
            try simp only [Act.put, List.getElem_toArray, List.getElem_cons_zero, List.getElem_cons_succ, List.setIfInBounds_toArray, List.set_cons_zero, List.set_cons_succ]
            refine till_take (i := 2) (v := ?_) rfl (by kernel_rfl) (fun _ _ _ h => h) (Or.inl ⟨by rfl, ?_⟩) ⟨c2,c3,v0,v1,v2,v3⟩ ?_
            rotate_left
            · intro W hS
              try dsimp only at hS
              go_split_ands
              go_simp
              try with_reducible rfl
            try simp only [Act.put, List.getElem_toArray, List.getElem_cons_zero, List.getElem_cons_succ, List.setIfInBounds_toArray, List.set_cons_zero, List.set_cons_succ]
            refine till_take (i := 3) (v := ?_) rfl (by kernel_rfl) (fun _ _ _ h => h) (Or.inl ⟨by rfl, ?_⟩) ⟨c2,c3,v0,v1,v2,v3⟩ ?_
            rotate_left
            · intro W hS
              try dsimp only at hS
              go_split_ands
              go_simp
              try with_reducible rfl
            try simp only [Act.put, List.getElem_toArray, List.getElem_cons_zero, List.getElem_cons_succ, List.setIfInBounds_toArray, List.set_cons_zero, List.set_cons_succ]
            refine till_take (i := 4) (v := ?_) rfl (by kernel_rfl) (fun _ _ _ h => h) (Or.inl ⟨by rfl, ?_⟩) ⟨c2,c3,v0,v1,v2,v3⟩ ?_
            rotate_left
            · intro W hS
              try dsimp only at hS
              go_split_ands
              go_simp
              try with_reducible rfl
            try simp only [Act.put, List.getElem_toArray, List.getElem_cons_zero, List.getElem_cons_succ, List.setIfInBounds_toArray, List.set_cons_zero, List.set_cons_succ]
            refine till_take (i := 5) (v := ?_) rfl (by kernel_rfl) (fun _ _ _ h => h) (Or.inl ⟨by rfl, ?_⟩) ⟨c2,c3,v0,v1,v2,v3⟩ ?_
            rotate_left
            · intro W hS
              try dsimp only at hS
              go_split_ands
              go_simp
              try with_reducible rfl
            try simp only [Act.put, List.getElem_toArray, List.getElem_cons_zero, List.getElem_cons_succ, List.setIfInBounds_toArray, List.set_cons_zero, List.set_cons_succ]
            refine till_take (i := 6) (v := ?_) rfl (by kernel_rfl) (fun _ _ _ h => h) (Or.inl ⟨by rfl, ?_⟩) ⟨c2,c3,v0,v1,v2,v3⟩ ?_
            rotate_left
            · intro W hS
              try dsimp only at hS
              go_split_ands
              go_simp
              try with_reducible rfl
            try simp only [Act.put, List.getElem_toArray, List.getElem_cons_zero, List.getElem_cons_succ, List.setIfInBounds_toArray, List.set_cons_zero, List.set_cons_succ]
            refine till_take (i := 7) (v := ?_) rfl (by kernel_rfl) (fun _ _ _ h => h) (Or.inl ⟨by rfl, ?_⟩) ⟨c2,c3,v0,v1,v2,v3⟩ ?_
            rotate_left
            · intro W hS
              try dsimp only at hS
              go_split_ands
              go_simp
              try with_reducible rfl
            try simp only [Act.put, List.getElem_toArray, List.getElem_cons_zero, List.getElem_cons_succ, List.setIfInBounds_toArray, List.set_cons_zero, List.set_cons_succ]
            refine till_take (i := 8) (v := ?_) rfl (by kernel_rfl) (fun _ _ _ h => h) (Or.inl ⟨by rfl, ?_⟩) ⟨c2,c3,v0,v1,v2,v3⟩ ?_
            rotate_left
            · intro W hS
              try dsimp only at hS
              go_split_ands
              go_simp
              try with_reducible rfl
            try simp only [Act.put, List.getElem_toArray, List.getElem_cons_zero, List.getElem_cons_succ, List.setIfInBounds_toArray, List.set_cons_zero, List.set_cons_succ]
            refine till_take (i := 9) (v := ?_) rfl (by kernel_rfl) (fun _ _ _ h => h) (Or.inl ⟨by rfl, ?_⟩) ⟨c2,c3,v0,v1,v2,v3⟩ ?_
            rotate_left
            · intro W hS
              try dsimp only at hS
              go_split_ands
              go_simp
              try with_reducible rfl
            try simp only [Act.put, List.getElem_toArray, List.getElem_cons_zero, List.getElem_cons_succ, List.setIfInBounds_toArray, List.set_cons_zero, List.set_cons_succ]
            refine till_take (i := 10) (v := ?_) rfl (by kernel_rfl) (fun _ _ _ h => h) (Or.inl ⟨by rfl, ?_⟩) ⟨c2,c3,v0,v1,v2,v3⟩ ?_
            rotate_left
            · intro W hS
              try dsimp only at hS
              go_split_ands
              go_simp
              try with_reducible rfl
            try simp only [Act.put, List.getElem_toArray, List.getElem_cons_zero, List.getElem_cons_succ, List.setIfInBounds_toArray, List.set_cons_zero, List.set_cons_succ]
            refine till_one (i := 11) (by kernel_rfl) rfl (fun K' hK => ?_)
            go_simp
            have HWd := Lib.hid (HB.out.drew)
            clear hsum
            go_at_call 52
            (with_reducible refine (wpath_any p ((k : Int) + (j : Int)) ap lp cp _ (HPP.out.kept (Kept.of_below HWd.out [])) HN.out HS64.out (by omega)).mono ?_)
            rintro y w5 ⟨⟨a5, c5, rfl, hS5⟩, b5⟩
            have HW5 := Lib.hid (HWd.out.trans (b5.mono HWd.out.size))
            have HPH5 := Lib.hid ((HPH.out.kept (Kept.of_below (Below.refl _ _).drew [])).kept (Kept.of_below b5 []))
            have HSC5 := Lib.hid ((HSC.out.kept (Kept.of_below (Below.refl _ _).drew [])).kept (Kept.of_below b5 []))
            have HS5 := Lib.hid hS5
            have t0 := cell_up (w := wr.drew) v0 b5
            have t1 := cell_up (w := wr.drew) v1 b5
            have t2 := cell_up (w := wr.drew) v2 b5
            have t3 := cell_up (w := wr.drew) v3 b5
            have t4 := cell_up (w := wr.drew) c2 b5
            have t5 := cell_up (w := wr.drew) c3 b5
            clear b5 v0 v1 v2 v3 c0 c1 c2 c3 HSC HPH HB HWd hS5
            refine hK _ _ ⟨t4,t5,t0,t1,t2,t3⟩ ?_
            clear hK K'
            try simp only [Act.put, List.getElem_toArray, List.getElem_cons_zero, List.getElem_cons_succ, List.setIfInBounds_toArray, List.set_cons_zero, List.set_cons_succ]
            refine till_last (by kernel_rfl) rfl (by kernel_rfl) (fun K' hK => ?_)
            go_simp
            go_at_call 19
            (with_reducible refine (HC2.out _ (p ++ [(k : Int) + (j : Int)]) a5 (lp + 1) c5 w5 HSC5.out HS5.out (fun h => absurd h (by omega)) (by omega)).mono ?_)
            rintro y w6 ⟨⟨a6, c6, rfl, hS6, hn6⟩, b6⟩
            have HW6 := Lib.hid (HW5.out.trans (b6.mono HW5.out.size))
            have HPH6 := Lib.hid (HPH5.out.kept (Kept.of_below b6 []))
            have HR6 : Hid (PathH w6 (refT c (p ++ [(k : Int) + (j : Int)])) a6 c6) := ⟨hS6, hn6⟩
            clear b6 t0 t1 t2 t3 t4 t5 HC2 HSC5 HS5 HPH5 HW5 hS6 hn6
            generalize refT c (p ++ [(k : Int) + (j : Int)]) = q at *
            refine hK _ _ ?_
            clear hK K'
            try simp only [Act.put, List.getElem_toArray, List.getElem_cons_zero, List.getElem_cons_succ, List.setIfInBounds_toArray, List.set_cons_zero, List.set_cons_succ]
            refine any_take (i := 13) (v := ?_) rfl (by kernel_rfl) (fun _ _ _ h => h) (Or.inl ⟨by rfl, ?_⟩) ?_
            rotate_left
            · intro W
              go_simp
              try with_reducible rfl
            try simp only [Act.put, List.getElem_toArray, List.getElem_cons_zero, List.getElem_cons_succ, List.setIfInBounds_toArray, List.set_cons_zero, List.set_cons_succ]
            refine any_take (i := 14) (v := ?_) rfl (by kernel_rfl) (fun _ _ _ h => h) (Or.inl ⟨by rfl, ?_⟩) ?_
            rotate_left
            · intro W
              go_simp
              try with_reducible rfl
            try simp only [Act.put, List.getElem_toArray, List.getElem_cons_zero, List.getElem_cons_succ, List.setIfInBounds_toArray, List.set_cons_zero, List.set_cons_succ]
            refine any_take (i := 15) (v := ?_) rfl (by kernel_rfl) (fun _ _ _ h => h) (Or.inl ⟨by rfl, ?_⟩) ?_
            rotate_left
            · intro W
              go_simp
              try with_reducible rfl
            try simp only [Act.put, List.getElem_toArray, List.getElem_cons_zero, List.getElem_cons_succ, List.setIfInBounds_toArray, List.set_cons_zero, List.set_cons_succ]
            refine any_take (i := 16) (v := ?_) rfl (by kernel_rfl) (fun _ _ _ h => h) (Or.inl ⟨by rfl, ?_⟩) ?_
            rotate_left
            · intro W
              go_simp
              try with_reducible rfl
            try simp only [Act.put, List.getElem_toArray, List.getElem_cons_zero, List.getElem_cons_succ, List.setIfInBounds_toArray, List.set_cons_zero, List.set_cons_succ]
            refine any_take (i := 17) (v := ?_) rfl (by kernel_rfl) (fun _ _ _ h => h) (Or.inl ⟨by rfl, ?_⟩) ?_
            rotate_left
            · intro W
              go_simp
              try with_reducible rfl
            try simp only [Act.put, List.getElem_toArray, List.getElem_cons_zero, List.getElem_cons_succ, List.setIfInBounds_toArray, List.set_cons_zero, List.set_cons_succ]
            refine wpAny_done (by kernel_rfl) ?_ _
            have HBT := Lib.hid (better_any o3 q ab a6 cb c6 w6 HPH6.out HR6.out)
            generalize hq1 : (pth q).length = lq at *
            generalize hq2 : q.isSome = bq at *
            have HBT' := Lib.hid HBT.out
            clear HBT hq1 hq2
            go_wp2_with fail
            go_at_call 53
            (with_reducible refine HBT'.out.mono ?_)
            rintro y w7 ⟨⟨a7, c7, rfl, hS7, hn7⟩, b7⟩
            have HW7 := Lib.hid (HW6.out.trans (b7.mono HW6.out.size))
            have HP7 : Hid (PathH w7 (bet o3 q) a7 c7) := ⟨hS7, hn7⟩
            clear b7 HW6 HPH6 HR6 hS7 hn7 HBT'
            go_wp2_with fail
            go_roundw
            case rel => exact ⟨j + 1, _, a7, c7, by go_num, rfl, rfl, by omega, HRG.out.symm.trans HO2.out, HP7.out, HW7.out⟩
            case measure => simp [intOf]; omega
          · have hj' : ¬ (j : Int) < (len2 : Int) := by omega
            obtain rfl : j = len2 := by omega
            have HRo : Hid (R = o3) := HEND.out.trans HO.out.symm
            have HF : Hid (PathR wr o3 (.returned (.tuple #[.slice ab (pth o3).length cb, .bool o3.isSome]))) := ⟨ab, cb, rfl, HPH.out.1, HPH.out.2⟩
            have HBW := Lib.hid (HB0.out.trans (HB.out.mono HB0.out.size))
            clear HPH HB HEND HO hlt
            generalize (pth o3).length = lo at *
            generalize o3.isSome = bo at *
            go_wp2_with fail
            go_ret2
            refine ⟨?_, HBW.out⟩
            rw [HRo.out]
            exact HF.out
end Go.Proofs.Ytppnmeobnilojaa

/- The contract of ref21.Fits; condition: built. -/
namespace Go.Proofs.Ytppnmeobnilojaa
set_option linter.unusedVariables false
set_option linter.unusedSimpArgs false
open Go.RowKit
theorem arX_le1 (op : Int) : arX op ≤ 1 := by
  unfold arX
  repeat' split
  all_goals omega
set_option maxRecDepth 100000 in
set_option maxHeartbeats 4000000 in
theorem rfits_any : ∀ (r : Nat) (e : Te), e.rk ≤ r → bT e = true → ∀ (cs : List Value) (w : World), RepT w [] e cs →
    Calls Try.prog 20 #[.agg cs.toArray] w fun x w' => x = .returned (.bool (fitT e)) ∧ Below w.heap.size w w' := by
  intro r
  induction r with
  | zero => intro e h; have := e.rk_pos; omega
  | succ r ih =>
    intro e hr hb cs w hR
    obtain ⟨op, nm, exprs, terms, a, len, cap, a2, len2, cap2, rfl, rfl, i1, i3, hS, hS2⟩ := hR.inv
    obtain ⟨g1, -, -, g4, g5⟩ := bT_inv hb
    obtain ⟨f1, f2, f3⟩ := hS.facts
    obtain ⟨f4, f5, f6⟩ := hS2.facts
    have hlen1 : len ≤ 1 := by have := arX_le1 op; omega
    have HI : Hid (∀ (k : Nat) e1, terms[k]? = some e1 → ∀ cs1 W, RepT W [] e1 cs1 → Calls Try.prog 20 #[.agg cs1.toArray] W fun x w' => x = .returned (.bool (fitT e1)) ∧ Below W.heap.size W w') := by
      intro k e1 hk cs1 W hR1
      exact ih e1 (by have := Te.rk_lt (op := op) (nm := nm) (x := exprs) hk; omega) (g5 e1 (List.mem_of_getElem? hk)) cs1 W hR1
    have HK : Hid (∀ (k : Nat) e1, exprs[k]? = some e1 → ∀ cs1 W, RepE W [] e1 cs1 → Calls Try.prog 25 #[.agg cs1.toArray] W fun x w' => x = .returned (.int .i64 (kE e1)) ∧ Below W.heap.size W w') := by
      intro k e1 hk cs1 W hR1
      exact rkind_any e1.rk e1 (Nat.le_refl _) (g4 e1 (List.mem_of_getElem? hk)) cs1 W hR1
    have HNX := Lib.hid (fun (j : Nat) c (h : exprs[j]? = some c) (hne : kE c ≠ needT op) => fitT_noX (nm := nm) (l := terms) h hne)
    have HNT := Lib.hid (fun (j : Nat) c (h : terms[j]? = some c) (hne : fitT c = false) => fitT_noT (op := op) (nm := nm) (x := exprs) h hne)
    have HY := Lib.hid (fun (h1 : ∀ (j : Nat) c, exprs[j]? = some c → kE c = needT op) (h2 : ∀ (j : Nat) c, terms[j]? = some c → fitT c = true) => fitT_yes (nm := nm) h1 h2)
    have HND : Hid (needT op = if op = 6 then 1 else 2) := rfl
    have HB0 := Lib.hid ((Below.refl w.heap.size w).alloc (Nat.le_refl _) (.cells #[.int .i64 op, .string nm, .slice a len cap, .slice a2 len2 cap2] 35))
    have BX := Lib.hid (Mem.Blk.new w 35 #[.int .i64 op, .string nm, .slice a len cap, .slice a2 len2 cap2])
    have HSS := Lib.hid (hS.kept (Kept.of_below HB0.out []))
    have HST := Lib.hid (hS2.kept (Kept.of_below HB0.out []))
    have HL := Lib.hid f1
    have HL2 := Lib.hid f4
    clear ih hr hR hS hS2 i1 i3 f1 f4 g1 g4 g5 hb
    generalize fitT (.mk op nm exprs terms) = R at *
    generalize needT op = nd at *
    go_enter Try.func20, Try.ntmps20
    go_upto_region 1 with (fail)
    generalize w.alloc (.cells #[.int .i64 op, .string nm, .slice a len cap, .slice a2 len2 cap2] 35) = v at *
    obtain ⟨c0, c1, c2, c3, -, -, -, -⟩ := blk4 BX.out
    by_cases hl : len = 1
    · have hl' : ((len : Int) == 1) = true := by rw [hl]; rfl
      obtain ⟨b, o, cop, cn, cnm, cargs, ca, clen, ccap, rfl, -, -, hxe, j1, j2, j3, hSc, v0, v1, v2, v3⟩ := HSS.out.at 0 (by omega)
      rw [Nat.zero_mul, Nat.add_zero] at v0 v1 v2 v3
      have HC := Lib.hid (HK.out 0 _ hxe _ v (RepE.mk' j1 j2 j3 hSc))
      have HX3 := Lib.hid (fun h => HNX.out 0 _ hxe h)
      have HX2 : Hid (kE (Ex.mk cop cn cnm cargs) = nd → ∀ (j : Nat) c, exprs[j]? = some c → kE c = nd) := fun h j c hc => by
        have hj : j = 0 := by have := (List.getElem?_eq_some_iff.1 hc).1; have := HL.out; omega
        subst hj
        rw [hxe] at hc
        injection hc with hc
        rw [← hc]; exact h
      have j0 : (0 : Int) < (len : Int) := by omega
      have HLE := Lib.hid hl
      clear hxe j1 j2 j3 hSc HK HNX hl
      generalize kE (Ex.mk cop cn cnm cargs) = kc at *
      go_wp2_with fail
      go_at_call 25
      (with_reducible refine HC.out.mono ?_)
      rintro y w1 ⟨rfl, b1⟩
      have HW1 := Lib.hid b1
      clear b1 HC c0 c1 c2 c3 v0 v1 v2 v3
      obtain ⟨c0, c1, c2, c3, -, -, -, -⟩ := blk4 (BX.out.below HW1.out)
      by_cases hkn : kc = nd
      · have HX := Lib.hid (HX2.out hkn)
        by_cases h6 : op = 6
        · have hk1 : kc = 1 := by rw [hkn, HND.out, if_pos h6]
          have h6' : (op == 6) = true := by rw [h6]; rfl
          have hk' : (kc == 1) = true := by rw [hk1]; rfl
          have hk'' : (kc != 1) = false := by rw [hk1]; rfl
          have h6'' : (op != 6) = false := by rw [h6]; rfl
          clear hkn hk1 h6 HX2 HX3 HND
          go_wp2_with fail
          clear c0 c1 c2 c3
          go_loopw [4] (fun i wr => ∃ k : Nat, i = .int .i64 (k : Nat) ∧ k ≤ len2 ∧ Hid (Below v.heap.size v wr) ∧ Hid (∀ (j : Nat) x, j < k → terms[j]? = some x → fitT x = true)) (fun i _ => len2 - (intOf i).toNat)
          case atStart => exact ⟨0, rfl, Nat.zero_le _, HW1.out, fun j x h => by omega⟩
          case round =>
            clear HW1
            obtain ⟨k, rfl, hk, HB, HP⟩ := hrel
            obtain ⟨c0, c1, c2, c3, -, -, -, -⟩ := blk4 (BX.out.below HB.out)
            by_cases hlt : k < len2
            · obtain ⟨b3, o3, cop3, cnm3, cex3, cte3, ca3, clen3, ccap3, cb3, clen4, ccap4, rfl, -, -, hxe, j1, j2, hSc, hTc, v0, v1, v2, v3⟩ := (HST.out.kept (Kept.of_below HB.out [])).at k hlt
              have j1' : (k : Int) < (len2 : Int) := by omega
              have j0' : (0 : Int) ≤ (k : Int) := by omega
              have HC := Lib.hid (HI.out k _ hxe _ wr (RepT.mk' j1 j2 hSc hTc))
              have HNO := Lib.hid (HNT.out k _ hxe)
              have HXE : Hid (∀ x, terms[k]? = some x → x = Te.mk cop3 cnm3 cex3 cte3) := fun x hx => by rw [hxe] at hx; injection hx with hx; exact hx.symm
              clear hxe j1 j2 hSc hTc
              generalize Te.mk cop3 cnm3 cex3 cte3 = c at *
              go_wp2_with fail
              go_at_call 20
              (with_reducible refine HC.out.mono ?_)
              rintro y w2 ⟨rfl, b2⟩
              have HB2 := Lib.hid (HB.out.trans (b2.mono HB.out.size))
              clear b2 HC v0 v1 v2 v3 c0 c1 c2 c3 HB
              cases hf : fitT c
              · have hR : R = false := HNO.out hf
                have HBW := Lib.hid (HB0.out.trans (HB2.out.mono HB0.out.size))
                clear hf HNO HNT HY HI HP
                subst hR
                go_wp2_with fail
                go_ret
                exact ⟨rfl, HBW.out⟩
              · have FIN : Hid (∀ (j : Nat) x, j < k + 1 → terms[j]? = some x → fitT x = true) := fun j x hj hx => by
                  rcases Nat.eq_or_lt_of_le (Nat.le_of_lt_succ hj) with rfl | h
                  · rw [HXE.out x hx]; exact hf
                  · exact HP.out j x h hx
                clear hf HNO HP HXE
                go_wp2_with fail
                go_roundw
                case rel => exact ⟨k + 1, by go_num, by omega, HB2.out, FIN.out⟩
                case measure => simp [intOf]; omega
            · have hk9 : ¬ (k : Int) < (len2 : Int) := by omega
              have hR : R = true := HY.out HX.out (fun j x hx => HP.out j x (by have := (List.getElem?_eq_some_iff.1 hx).1; have := HL2.out; omega) hx)
              have HBW := Lib.hid (HB0.out.trans (HB.out.mono HB0.out.size))
              clear HNT HY HI HP HX HB
              subst hR
              go_wp2_with fail
              go_ret
              exact ⟨rfl, HBW.out⟩
        · have hk1 : kc = 2 := by rw [hkn, HND.out, if_neg h6]
          have h6' : (op == 6) = false := beq_eq_false_iff_ne.2 h6
          have h6'' : (op != 6) = true := by simp [bne, h6']
          have hk' : (kc == 2) = true := by rw [hk1]; rfl
          have hk'' : (kc != 2) = false := by rw [hk1]; rfl
          clear hkn hk1 h6 HX2 HX3 HND
          go_wp2_with fail
          clear c0 c1 c2 c3
          go_loopw [4] (fun i wr => ∃ k : Nat, i = .int .i64 (k : Nat) ∧ k ≤ len2 ∧ Hid (Below v.heap.size v wr) ∧ Hid (∀ (j : Nat) x, j < k → terms[j]? = some x → fitT x = true)) (fun i _ => len2 - (intOf i).toNat)
          case atStart => exact ⟨0, rfl, Nat.zero_le _, HW1.out, fun j x h => by omega⟩
          case round =>
            clear HW1
            obtain ⟨k, rfl, hk, HB, HP⟩ := hrel
            obtain ⟨c0, c1, c2, c3, -, -, -, -⟩ := blk4 (BX.out.below HB.out)
            by_cases hlt : k < len2
            · obtain ⟨b3, o3, cop3, cnm3, cex3, cte3, ca3, clen3, ccap3, cb3, clen4, ccap4, rfl, -, -, hxe, j1, j2, hSc, hTc, v0, v1, v2, v3⟩ := (HST.out.kept (Kept.of_below HB.out [])).at k hlt
              have j1' : (k : Int) < (len2 : Int) := by omega
              have j0' : (0 : Int) ≤ (k : Int) := by omega
              have HC := Lib.hid (HI.out k _ hxe _ wr (RepT.mk' j1 j2 hSc hTc))
              have HNO := Lib.hid (HNT.out k _ hxe)
              have HXE : Hid (∀ x, terms[k]? = some x → x = Te.mk cop3 cnm3 cex3 cte3) := fun x hx => by rw [hxe] at hx; injection hx with hx; exact hx.symm
              clear hxe j1 j2 hSc hTc
              generalize Te.mk cop3 cnm3 cex3 cte3 = c at *
              go_wp2_with fail
              go_at_call 20
              (with_reducible refine HC.out.mono ?_)
              rintro y w2 ⟨rfl, b2⟩
              have HB2 := Lib.hid (HB.out.trans (b2.mono HB.out.size))
              clear b2 HC v0 v1 v2 v3 c0 c1 c2 c3 HB
              cases hf : fitT c
              · have hR : R = false := HNO.out hf
                have HBW := Lib.hid (HB0.out.trans (HB2.out.mono HB0.out.size))
                clear hf HNO HNT HY HI HP
                subst hR
                go_wp2_with fail
                go_ret
                exact ⟨rfl, HBW.out⟩
              · have FIN : Hid (∀ (j : Nat) x, j < k + 1 → terms[j]? = some x → fitT x = true) := fun j x hj hx => by
                  rcases Nat.eq_or_lt_of_le (Nat.le_of_lt_succ hj) with rfl | h
                  · rw [HXE.out x hx]; exact hf
                  · exact HP.out j x h hx
                clear hf HNO HP HXE
                go_wp2_with fail
                go_roundw
                case rel => exact ⟨k + 1, by go_num, by omega, HB2.out, FIN.out⟩
                case measure => simp [intOf]; omega
            · have hk9 : ¬ (k : Int) < (len2 : Int) := by omega
              have hR : R = true := HY.out HX.out (fun j x hx => HP.out j x (by have := (List.getElem?_eq_some_iff.1 hx).1; have := HL2.out; omega) hx)
              have HBW := Lib.hid (HB0.out.trans (HB.out.mono HB0.out.size))
              clear HNT HY HI HP HX HB
              subst hR
              go_wp2_with fail
              go_ret
              exact ⟨rfl, HBW.out⟩
      · have hR : R = false := HX3.out hkn
        by_cases h6 : op = 6
        · have hk1 : kc ≠ 1 := fun h => hkn (by rw [h, HND.out, if_pos h6])
          have h6' : (op == 6) = true := by rw [h6]; rfl
          have hk' : (kc == 1) = false := beq_eq_false_iff_ne.2 hk1
          have hk'' : (kc != 1) = true := by simp [bne, hk']
          have HBW := Lib.hid (HB0.out.trans (HW1.out.mono HB0.out.size))
          clear hkn hk1 h6 HX2 HX3 HND HI HY HNT
          subst hR
          go_wp2_with fail
          go_ret
          exact ⟨rfl, HBW.out⟩
        · have hk1 : kc ≠ 2 := fun h => hkn (by rw [h, HND.out, if_neg h6])
          have h6' : (op == 6) = false := beq_eq_false_iff_ne.2 h6
          have h6'' : (op != 6) = true := by simp [bne, h6']
          have hk' : (kc == 2) = false := beq_eq_false_iff_ne.2 hk1
          have hk'' : (kc != 2) = true := by simp [bne, hk']
          have HBW := Lib.hid (HB0.out.trans (HW1.out.mono HB0.out.size))
          clear hkn hk1 h6 HX2 HX3 HND HI HY HNT
          subst hR
          go_wp2_with fail
          go_ret
          exact ⟨rfl, HBW.out⟩
    · have hl' : ((len : Int) == 1) = false := beq_eq_false_iff_ne.2 (by omega)
      have HX : Hid (∀ (j : Nat) c, exprs[j]? = some c → kE c = nd) := fun j c hc => by
        have := (List.getElem?_eq_some_iff.1 hc).1; have := HL.out; omega
      have HW1 : Hid (Below v.heap.size v v) := Below.refl _ _
      clear HK HNX hl HND
      go_wp2_with fail
      clear c0 c1 c2 c3
      go_loopw [4] (fun i wr => ∃ k : Nat, i = .int .i64 (k : Nat) ∧ k ≤ len2 ∧ Hid (Below v.heap.size v wr) ∧ Hid (∀ (j : Nat) x, j < k → terms[j]? = some x → fitT x = true)) (fun i _ => len2 - (intOf i).toNat)
      case atStart => exact ⟨0, rfl, Nat.zero_le _, HW1.out, fun j x h => by omega⟩
      case round =>
        clear HW1
        obtain ⟨k, rfl, hk, HB, HP⟩ := hrel
        obtain ⟨c0, c1, c2, c3, -, -, -, -⟩ := blk4 (BX.out.below HB.out)
        by_cases hlt : k < len2
        · obtain ⟨b3, o3, cop3, cnm3, cex3, cte3, ca3, clen3, ccap3, cb3, clen4, ccap4, rfl, -, -, hxe, j1, j2, hSc, hTc, v0, v1, v2, v3⟩ := (HST.out.kept (Kept.of_below HB.out [])).at k hlt
          have j1' : (k : Int) < (len2 : Int) := by omega
          have j0' : (0 : Int) ≤ (k : Int) := by omega
          have HC := Lib.hid (HI.out k _ hxe _ wr (RepT.mk' j1 j2 hSc hTc))
          have HNO := Lib.hid (HNT.out k _ hxe)
          have HXE : Hid (∀ x, terms[k]? = some x → x = Te.mk cop3 cnm3 cex3 cte3) := fun x hx => by rw [hxe] at hx; injection hx with hx; exact hx.symm
          clear hxe j1 j2 hSc hTc
          generalize Te.mk cop3 cnm3 cex3 cte3 = c at *
          go_wp2_with fail
          go_at_call 20
          (with_reducible refine HC.out.mono ?_)
          rintro y w2 ⟨rfl, b2⟩
          have HB2 := Lib.hid (HB.out.trans (b2.mono HB.out.size))
          clear b2 HC v0 v1 v2 v3 c0 c1 c2 c3 HB
          cases hf : fitT c
          · have hR : R = false := HNO.out hf
            have HBW := Lib.hid (HB0.out.trans (HB2.out.mono HB0.out.size))
            clear hf HNO HNT HY HI HP
            subst hR
            go_wp2_with fail
            go_ret
            exact ⟨rfl, HBW.out⟩
          · have FIN : Hid (∀ (j : Nat) x, j < k + 1 → terms[j]? = some x → fitT x = true) := fun j x hj hx => by
              rcases Nat.eq_or_lt_of_le (Nat.le_of_lt_succ hj) with rfl | h
              · rw [HXE.out x hx]; exact hf
              · exact HP.out j x h hx
            clear hf HNO HP HXE
            go_wp2_with fail
            go_roundw
            case rel => exact ⟨k + 1, by go_num, by omega, HB2.out, FIN.out⟩
            case measure => simp [intOf]; omega
        · have hk9 : ¬ (k : Int) < (len2 : Int) := by omega
          have hR : R = true := HY.out HX.out (fun j x hx => HP.out j x (by have := (List.getElem?_eq_some_iff.1 hx).1; have := HL2.out; omega) hx)
          have HBW := Lib.hid (HB0.out.trans (HB.out.mono HB0.out.size))
          clear HNT HY HI HP HX HB
          subst hR
          go_wp2_with fail
          go_ret
          exact ⟨rfl, HBW.out⟩
end Go.Proofs.Ytppnmeobnilojaa
