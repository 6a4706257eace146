/- A part of the proof: Last, Open, one behind another. -/
import Derived.Test.YtppnmeobnilojaaMAA
import Derived.Test.YtppnmeobnilojaaMAB
import Derived.Test.YtppnmeobnilojaaMAC
import Derived.Test.YtppnmeobnilojaaMAD
import Derived.Test.YtppnmeobnilojaaMAE
import Derived.Test.YtppnmeobnilojaaMAF
import Derived.Test.YtppnmeobnilojaaMAG
import Derived.WalkKit
import Derived.ProofKit
import Derived.OpenShut
import Derived.ShutString
import Derived.ChangeOld
import Derived.Below
import Derived.Deep.Slices
import Derived.Deep.Fields
import Derived.ChangeSame
/- The contract of a built tree's Last. -/
namespace Go.Proofs.Ytppnmeobnilojaa
set_option linter.unusedVariables false
set_option linter.unusedSimpArgs false
open Go.RowKit
def lastT (ts : List Te) : Option Te := match ts.getLast? with | some t => if rT t = true then some t else none | none => none
theorem lastT_right {ts : List Te} {t : Te} (h : lastT ts = some t) : rT t = true ∧ t ∈ ts := by
  unfold lastT at h
  cases hl : ts.getLast? with
  | none => rw [hl] at h; cases h
  | some u =>
    rw [hl] at h
    by_cases hu : rT u = true
    · simp [hu] at h; subst h; exact ⟨hu, List.mem_of_getLast? hl⟩
    · simp [hu] at h
theorem lastT_of {ts : List Te} {k : Nat} {t : Te} (hk : ts.length = k + 1) (ht : ts[k]? = some t) : lastT ts = if rT t = true then some t else none := by
  unfold lastT
  rw [List.getLast?_eq_getElem?, hk, Nat.add_sub_cancel, ht]
theorem below_set4 {B g : Nat} {w wr : World} {c0 c1 c2 c3 : Value} (h : Below B w wr) (hg : B ≤ g) : Below B w ((((wr.setCell ⟨g, 0, none⟩ c0).setCell ⟨g, 1, none⟩ c1).setCell ⟨g, 2, none⟩ c2).setCell ⟨g, 3, none⟩ c3) :=
  (((h.setCell (p := ⟨g, 0, none⟩) hg c0).setCell (p := ⟨g, 1, none⟩) hg c1).setCell (p := ⟨g, 2, none⟩) hg c2).setCell (p := ⟨g, 3, none⟩) hg c3
set_option maxRecDepth 100000 in
set_option maxHeartbeats 2000000 in
theorem last_any {w : World} {es : List Ex} {ts : List Te} {cs : List Value} (h : TreeIs w [] es ts cs) (hr : ∀ t ∈ ts, t.rk < 1000) (hlen : ts.length ≤ 1000) :
    Calls Try.prog 21 #[.agg cs.toArray] w fun x w' => ((x = .returned (.tuple #[.agg #[.int .i64 0, .string ⟨#[]⟩, .slice none 0 0, .slice none 0 0], .bool false]) ∧ lastT ts = none) ∨ (∃ cs' t, x = .returned (.tuple #[.agg cs'.toArray, .bool true]) ∧ lastT ts = some t ∧ RepT w' [] t cs')) ∧ Below w.heap.size w w' := by
  have HT := Lib.hid h
  obtain ⟨aE, cE, aN, cN, aD, cD, aT, cT, aM, cM, aP, cP, rfl, -, -, -, h4, -, -⟩ := h
  have HB0 := Lib.hid ((((Below.refl w.heap.size w).alloc (Nat.le_refl _) (.cells #[.slice aE es.length cE, .slice aN (nds es).length cN, .slice aD (rks es).length cD, .slice aT ts.length cT, .slice aM (ndsT ts).length cM, .slice aP (rksT ts).length cP] 30)).alloc (by simp) (.cells #[.int .i64 0, .string ⟨#[]⟩, .slice none 0 0, .slice none 0 0] 35)))
  have BX := Lib.hid ((Mem.Blk.new w 30 #[.slice aE es.length cE, .slice aN (nds es).length cN, .slice aD (rks es).length cD, .slice aT ts.length cT, .slice aM (ndsT ts).length cM, .slice aP (rksT ts).length cP]).alloc (.cells #[.int .i64 0, .string ⟨#[]⟩, .slice none 0 0, .slice none 0 0] 35))
  have BY := Lib.hid (Mem.Blk.new (w.alloc (.cells #[.slice aE es.length cE, .slice aN (nds es).length cN, .slice aD (rks es).length cD, .slice aT ts.length cT, .slice aM (ndsT ts).length cM, .slice aP (rksT ts).length cP] 30)) 35 #[.int .i64 0, .string ⟨#[]⟩, .slice none 0 0, .slice none 0 0])
  rw [show (w.alloc (.cells #[.slice aE es.length cE, .slice aN (nds es).length cN, .slice aD (rks es).length cD, .slice aT ts.length cT, .slice aM (ndsT ts).length cM, .slice aP (rksT ts).length cP] 30)).heap.size = w.heap.size + 1 by simp] at BY
  have HR := Lib.hid hr
  have H4 := Lib.hid h4
  clear hr h4
  rcases Nat.eq_zero_or_pos ts.length with hz | hz
  · have hno : lastT ts = none := by
      rw [List.length_eq_zero_iff.1 hz]; rfl
    have HNO := Lib.hid hno
    have hz' : ((ts.length : Int) == 0) = true := by rw [hz]; rfl
    clear hno H4 hz
    go_enter Try.func21, Try.ntmps21
    go_upto_region 1 with (fail)
    generalize (w.alloc (.cells #[.slice aE es.length cE, .slice aN (nds es).length cN, .slice aD (rks es).length cD, .slice aT ts.length cT, .slice aM (ndsT ts).length cM, .slice aP (rksT ts).length cP] 30)).alloc (.cells #[.int .i64 0, .string ⟨#[]⟩, .slice none 0 0, .slice none 0 0] 35) = v at *
    have t0 : v.cell? ⟨w.heap.size, 0, none⟩ = _ := BX.out.cell 0
    have t1 : v.cell? ⟨w.heap.size, 1, none⟩ = _ := BX.out.cell 1
    have t2 : v.cell? ⟨w.heap.size, 2, none⟩ = _ := BX.out.cell 2
    have t3 : v.cell? ⟨w.heap.size, 3, none⟩ = _ := BX.out.cell 3
    have t4 : v.cell? ⟨w.heap.size, 4, none⟩ = _ := BX.out.cell 4
    have t5 : v.cell? ⟨w.heap.size, 5, none⟩ = _ := BX.out.cell 5
    simp only [List.getElem?_toArray, List.getElem?_cons_zero, List.getElem?_cons_succ] at t0 t1 t2 t3 t4 t5
    obtain ⟨z0, z1, z2, z3, y0, y1, y2, y3⟩ := blk4 BY.out
    go_wp2_with fail
    exact bodyPost_ret (by simp [results, Try.results21, go_sem, z0, z1, z2, z3]) rfl ⟨.inl ⟨rfl, HNO.out⟩, below_set4 HB0.out (Nat.le_add_right _ 1)⟩
  · obtain ⟨k, hk⟩ : ∃ k, ts.length = k + 1 := ⟨ts.length - 1, by omega⟩
    obtain ⟨t, ht⟩ : ∃ t, ts[k]? = some t := ⟨_, List.getElem?_eq_getElem (by omega)⟩
    have HL := Lib.hid (lastT_of hk ht)
    have HC := Lib.hid (fun W (hW : Below w.heap.size w W) => treeRight_any (HT.out.kept (Kept.of_below hW [])) k ht (HR.out t (List.mem_of_getElem? ht)))
    obtain ⟨bt, ot, xt, ct, rfl, -, -, hxt, hRt, -, hct⟩ := H4.out.at k (by omega)
    obtain rfl : t = xt := by rw [ht] at hxt; injection hxt
    have HRT := Lib.hid (show RepT w [] t ct from hRt)
    obtain ⟨o5, e5, x5, t5, p5, l5, r5, p6, l6, r6, -, rfl, -⟩ := hRt.inv
    have HCT : Hid (∀ j c, [.int .i64 o5, .string e5, .slice p5 l5 r5, .slice p6 l6 r6][j]? = some c → w.cell? ⟨bt, ot + k * 4 + j, none⟩ = some c) := hct
    have hkb : k < 1000 := by omega
    clear hxt hRt hct ht H4
    have hw : (ts.length : Int) - 1 = (k : Int) := by omega
    have hk0 : ¬ ((ts.length : Int) = 0) := by omega
    have hk1 : ((ts.length : Int) == 0) = false := beq_eq_false_iff_ne.2 hk0
    have hk2 : (0 : Int) ≤ (k : Int) := by omega
    have hk3 : (k : Int) < (ts.length : Int) := by omega
    clear hz hk
    go_enter Try.func21, Try.ntmps21
    go_upto_region 1 with (fail)
    generalize (w.alloc (.cells #[.slice aE es.length cE, .slice aN (nds es).length cN, .slice aD (rks es).length cD, .slice (some ⟨bt, ot, none⟩) ts.length cT, .slice aM (ndsT ts).length cM, .slice aP (rksT ts).length cP] 30)).alloc (.cells #[.int .i64 0, .string ⟨#[]⟩, .slice none 0 0, .slice none 0 0] 35) = v at *
    have t0 : v.cell? ⟨w.heap.size, 0, none⟩ = _ := BX.out.cell 0
    have t1 : v.cell? ⟨w.heap.size, 1, none⟩ = _ := BX.out.cell 1
    have t2 : v.cell? ⟨w.heap.size, 2, none⟩ = _ := BX.out.cell 2
    have t3 : v.cell? ⟨w.heap.size, 3, none⟩ = _ := BX.out.cell 3
    have t4 : v.cell? ⟨w.heap.size, 4, none⟩ = _ := BX.out.cell 4
    have t5 : v.cell? ⟨w.heap.size, 5, none⟩ = _ := BX.out.cell 5
    simp only [List.getElem?_toArray, List.getElem?_cons_zero, List.getElem?_cons_succ] at t0 t1 t2 t3 t4 t5
    obtain ⟨z0, z1, z2, z3, y0, y1, y2, y3⟩ := blk4 BY.out
    go_wp2_with fail
    go_at_call 18
    (with_reducible refine (HC.out v HB0.out).mono ?_)
    rintro y w1 ⟨rfl, b1⟩
    have HB1 := Lib.hid (HB0.out.trans (b1.mono HB0.out.size))
    have BX1 := Lib.hid (BX.out.below b1)
    have BY1 := Lib.hid (BY.out.below b1)
    have HRT1 := Lib.hid (RepT.kept (HRT.out.less (X' := [w.heap.size + 1]) (fun b hb hm => by rw [List.mem_singleton] at hm; omega)) (Kept.of_below HB1.out _))
    clear b1 HC t0 t1 t2 t3 t4 t5 z0 z1 z2 z3 y0 y1 y2 y3
    have t3 : w1.cell? ⟨w.heap.size, 3, none⟩ = _ := BX1.out.cell 3
    simp only [List.getElem?_toArray, List.getElem?_cons_zero, List.getElem?_cons_succ] at t3
    obtain ⟨z0, z1, z2, z3, y0, y1, y2, y3⟩ := blk4 BY1.out
    cases hrt : rT t
    · have HNO : Hid (lastT ts = none) := by show _ = _; rw [HL.out, hrt]; rfl
      clear hrt HL HCT
      go_wp2_with fail
      exact bodyPost_ret (by simp [results, Try.results21, go_sem, z0, z1, z2, z3]) rfl ⟨.inl ⟨rfl, HNO.out⟩, below_set4 HB1.out (Nat.le_add_right _ 1)⟩
    · have HYES : Hid (lastT ts = some t) := by show _ = _; rw [HL.out, hrt]; rfl
      have v0 : w1.cell? ⟨bt, ot + k * 4, none⟩ = some (.int .i64 o5) := cell_up (HCT.out 0 _ rfl) HB1.out
      have v1 : w1.cell? ⟨bt, ot + k * 4 + 1, none⟩ = some (.string e5) := cell_up (HCT.out 1 _ rfl) HB1.out
      have v2 : w1.cell? ⟨bt, ot + k * 4 + 2, none⟩ = some (.slice p5 l5 r5) := cell_up (HCT.out 2 _ rfl) HB1.out
      have v3 : w1.cell? ⟨bt, ot + k * 4 + 3, none⟩ = some (.slice p6 l6 r6) := cell_up (HCT.out 3 _ rfl) HB1.out
      clear hrt HL HCT
      go_wp2_with fail
      obtain ⟨n1, n2, n3⟩ := simp_fin HB1.out BY1.out HRT1.out
      exact bodyPost_ret (by simp [results, Try.results21, go_sem, z0, z1, z2, z3]) rfl ⟨.inr ⟨_, t, rfl, HYES.out, n1⟩, n2⟩
end Go.Proofs.Ytppnmeobnilojaa

/- What came in, opened: slices of ints, of strings, of structs of such. -/
namespace Go.Proofs.Ytppnmeobnilojaa
set_option linter.unusedVariables false
set_option linter.unusedSimpArgs false
open Go.ChangeShapes Go.WideShapes Go.ChangeAt Go.RowKit Go.Deep
def Opens {α : Type} (P : Program) (e : TypeId) (K : Elt α) : Prop :=
  ∀ (H : Type) (enc : TypeId × Value → H) (W : World) (fuel : Nat) (cs : List Value) (x : DataW H × List MemPlace), DataW.trod enc P W 0 (fun _ => true) true fuel e cs = some x → ∃ d, K.R W [] d cs
theorem i64_of {n : Int} (h : (Lit.int .i64 n).wf = true) : I64 n := by
  simp [Lit.wf, IntKind.min, IntKind.max, IntKind.signed, IntKind.bits] at h
  unfold I64
  omega
theorem opens_int {P : Program} {t : TypeId} (ht : P.underlying t = some (.int .i64)) : Opens P t i64K := by
  intro H enc W fuel cs x h
  obtain ⟨n, rfl, _, hw⟩ := DataW.trod_int ht h
  exact ⟨n, rfl, i64_of hw⟩
theorem pick_all {α : Type} {Q : Nat → α → List Value → Prop} : ∀ (len : Nat), (∀ i, i < len → ∃ d c, Q i d c) → ∃ (l : List α) (vs : List (List Value)), l.length = len ∧ vs.length = len ∧ ∀ i d c, l[i]? = some d → vs[i]? = some c → Q i d c := by
  intro len
  induction len with
  | zero => intro _; exact ⟨[], [], rfl, rfl, fun i d c h _ => by simp at h⟩
  | succ n ih =>
    intro h
    obtain ⟨l, vs, h1, h2, h3⟩ := ih (fun i hi => h i (by omega))
    obtain ⟨d, c, hq⟩ := h n (by omega)
    refine ⟨l ++ [d], vs ++ [c], by simp [h1], by simp [h2], fun i d' c' hd hc => ?_⟩
    rcases Nat.lt_or_ge i n with hi | hi
    · rw [List.getElem?_append_left (by omega)] at hd hc
      exact h3 i d' c' hd hc
    · have hin : i = n := by
        have := (List.getElem?_eq_some_iff.1 hd).1; simp at this; omega
      subst hin
      rw [List.getElem?_append_right (by omega), h1, Nat.sub_self] at hd
      rw [List.getElem?_append_right (by omega), h2, Nat.sub_self] at hc
      injection hd with hd; injection hc with hc
      subst hd; subst hc
      exact hq
theorem opens_slice {α : Type} {K : Elt α} {P : Program} {t e : TypeId} (ht : P.underlying t = some (.slice e)) (hK : P.cellsOf e = K.sz) (he : Opens P e K) {H : Type} {enc : TypeId × Value → H} {W : World} {fuel : Nat} {cs : List Value} {x : DataW H × List MemPlace}
    (h : DataW.trod enc P W 0 (fun _ => true) true fuel t cs = some x) : ∃ a len cap l, cs = [.slice a len cap] ∧ SlR K W [] l a len cap := by
  rcases open_slice ht h with ⟨rfl, _⟩ | ⟨a, len, cap, m, n, D, Pl, rfl, _, hl, hm, hmm, _, hi⟩
  · exact ⟨none, 0, 0, [], rfl, SlR.nil K W []⟩
  · have hmx : cap ≤ 9223372036854775807 := by
      have : maxLen = 9223372036854775807 := by decide
      omega
    rw [if_pos rfl] at hmm
    obtain ⟨l, vs, h1, h2, h3⟩ := pick_all (Q := fun i d c => K.R W [] d c ∧ c.length = K.sz ∧ ∀ j u, c[j]? = some u → W.cell? (a.add (i * K.sz + j)) = some u) len (fun i hi' => by
      obtain ⟨c, hc, ht'⟩ := hi i (by omega)
      obtain ⟨d, hd⟩ := he H enc W n c _ ht'
      obtain ⟨_, hcl, hat⟩ := World.cells?_some hc
      rw [hK] at hcl hat
      refine ⟨d, c, hd, hcl, fun j u hj => ?_⟩
      have hjs : j < K.sz := by rw [← hcl]; exact (List.getElem?_eq_some_iff.1 hj).1
      rw [← Go.Deep.add_add, hat j hjs]
      exact hj)
    refine ⟨some a, len, cap, l, rfl, vs, by rw [h1, h2], fun i d c hd hc => (h3 i d c hd hc).1, h2, hl, hmx, fun hp => ?_⟩
    have hv0 : vs[0]? = some (vs[0]'(by omega)) := List.getElem?_eq_getElem (by omega)
    have hl0 : l[0]? = some (l[0]'(by omega)) := List.getElem?_eq_getElem (by omega)
    obtain ⟨_, hlen0, hcell0⟩ := h3 0 _ _ hl0 hv0
    have hK0 := K.pos
    have hz := hcell0 0 _ (List.getElem?_eq_getElem (by omega))
    obtain ⟨b, off, spot⟩ := a
    obtain rfl : spot = none := by simpa [Addr.add] using World.cell?_spot hz
    have hblt := cell_lt hz
    rw [show (⟨b, off, none⟩ : Addr).add (0 * K.sz + 0) = ⟨b, off + (0 * K.sz + 0), none⟩ from Mem.add_off _ _ _] at hblt
    refine ⟨b, off, rfl, hblt, List.not_mem_nil, fun i c hc => ?_⟩
    have hlt : i < l.length := by rw [h1, ← h2]; exact (List.getElem?_eq_some_iff.1 hc).1
    obtain ⟨_, g2, g3⟩ := h3 i _ c (List.getElem?_eq_getElem hlt) hc
    refine ⟨g2, fun j u hj => ?_⟩
    have := g3 j u hj
    rw [Mem.add_off, ← Nat.add_assoc] at this
    exact this
/-- A struct of one-cell fields: each field's cell. -/
theorem opens_struct {P : Program} {e : TypeId} {fs : Array Field} (he : P.underlying e = some (.struct fs)) (hone : oneCellFields P fs = true) (hC : P.cellsOf e = fs.size) {H : Type} {enc : TypeId × Value → H} {W : World} {fuel : Nat} {cs : List Value} {x : DataW H × List MemPlace}
    (h : DataW.trod enc P W 0 (fun _ => true) true fuel e cs = some x) : cs.length = fs.size ∧ ∀ (j : Nat) (f : Field), fs[j]? = some f → ∃ v n y, cs[j]? = some v ∧ DataW.trod enc P W 0 (fun _ => true) true n f.type [v] = some y := by
  obtain ⟨ys, n', hn', hy, hlen, hyl, hf⟩ := DataW.trod_struct he h
  refine ⟨by rw [hlen, hC], fun j f hj => ?_⟩
  obtain ⟨ho, hk⟩ := hone_of hone j f hj
  have hjl : j < fs.size := (Array.getElem?_eq_some_iff.1 hj).1
  have hv : cs[j]? = some (cs[j]'(by omega)) := List.getElem?_eq_getElem (by omega)
  have h1 := hf j f hj
  rw [ho, hk] at h1
  have hone' : (cs.drop j).take 1 = [cs[j]'(by omega)] := by
    rw [List.drop_eq_getElem_cons (by omega)]
    rfl
  rw [hone'] at h1
  have hys : ys[j]? = some (ys[j]'(by omega)) := List.getElem?_eq_getElem (by omega)
  exact ⟨_, _, _, hv, h1.trans hys⟩
theorem four_list {α : Type} {cs : List α} (h : cs.length = 4) {a b c d : α} (h0 : cs[0]? = some a) (h1 : cs[1]? = some b) (h2 : cs[2]? = some c) (h3 : cs[3]? = some d) : cs = [a, b, c, d] := by
  match cs, h with
  | [p, q, r, s], _ => simp at h0 h1 h2 h3; subst h0; subst h1; subst h2; subst h3; rfl
theorem opens_leaf : Opens Try.prog 86 lfK := by
  intro H enc W fuel cs x h
  obtain ⟨hl, hf⟩ := opens_struct Try.underlying86 (by kernel_rfl) (by kernel_rfl) h
  obtain ⟨v0, n0, y0, c0, t0⟩ := hf 0 _ rfl
  obtain ⟨v1, n1, y1, c1, t1⟩ := hf 1 _ rfl
  obtain ⟨v2, n2, y2, c2, t2⟩ := hf 2 _ rfl
  obtain ⟨v3, n3, y3, c3, t3⟩ := hf 3 _ rfl
  obtain ⟨a, e0, _, w0⟩ := DataW.trod_int (k := .i64) Try.underlying3 t0
  obtain ⟨b, e1, _, w1⟩ := DataW.trod_int (k := .i64) Try.underlying2 t1
  obtain ⟨s, e2, _, w2⟩ := DataW.trod_string Try.underlying9 t2
  obtain ⟨p, len, cap, l, e3, hS⟩ := opens_slice (K := i64K) Try.underlying27 (by kernel_rfl) (opens_int Try.underlying3) t3
  injection e0 with e0; injection e1 with e1; injection e2 with e2; injection e3 with e3
  subst e0; subst e1; subst e2; subst e3
  have hll := hS.facts.1
  subst hll
  exact ⟨⟨a, b, s, l⟩, p, cap, four_list hl c0 c1 c2 c3, i64_of w0, i64_of w1, (show s.size ≤ 9223372036854775807 by unfold maxLen at w2; omega), hS⟩
theorem opens_knot : Opens Try.prog 90 knK := by
  intro H enc W fuel cs x h
  obtain ⟨hl, hf⟩ := opens_struct Try.underlying90 (by kernel_rfl) (by kernel_rfl) h
  obtain ⟨v0, n0, y0, c0, t0⟩ := hf 0 _ rfl
  obtain ⟨v1, n1, y1, c1, t1⟩ := hf 1 _ rfl
  obtain ⟨v2, n2, y2, c2, t2⟩ := hf 2 _ rfl
  obtain ⟨v3, n3, y3, c3, t3⟩ := hf 3 _ rfl
  obtain ⟨a, e0, _, w0⟩ := DataW.trod_int (k := .i64) Try.underlying3 t0
  obtain ⟨s, e1, _, w1⟩ := DataW.trod_string Try.underlying9 t1
  obtain ⟨p, len, cap, l, e2, hS⟩ := opens_slice (K := i64K) Try.underlying27 (by kernel_rfl) (opens_int Try.underlying3) t2
  obtain ⟨p2, len2, cap2, l2, e3, hS2⟩ := opens_slice (K := i64K) Try.underlying27 (by kernel_rfl) (opens_int Try.underlying3) t3
  injection e0 with e0; injection e1 with e1; injection e2 with e2; injection e3 with e3
  subst e0; subst e1; subst e2; subst e3
  have hll := hS.facts.1
  subst hll
  have hll2 := hS2.facts.1
  subst hll2
  exact ⟨⟨a, s, l, l2⟩, p, cap, p2, cap2, four_list hl c0 c1 c2 c3, i64_of w0, (show s.size ≤ 9223372036854775807 by unfold maxLen at w1; omega), hS, hS2⟩
theorem leaves_of {H : Type} {enc : TypeId × Value → H} {W : World} {a : Option Addr} {len cap : Nat} {x : DataW H × List MemPlace} (k : ∃ fuel, DataW.trod enc Try.prog W 0 (fun _ => true) true fuel 22 (Value.cells (.slice a len cap)).toList = some x) :
    ∃ l, SlR lfK W [] l a len cap := by
  obtain ⟨fuel, hf⟩ := k
  obtain ⟨a', len', cap', l, e, hS⟩ := opens_slice (K := lfK) Try.underlying22 (by kernel_rfl) opens_leaf hf
  simp [Value.cells] at e
  obtain ⟨rfl, rfl, rfl⟩ := e
  exact ⟨l, hS⟩
theorem knots_of {H : Type} {enc : TypeId × Value → H} {W : World} {a : Option Addr} {len cap : Nat} {x : DataW H × List MemPlace} (k : ∃ fuel, DataW.trod enc Try.prog W 0 (fun _ => true) true fuel 23 (Value.cells (.slice a len cap)).toList = some x) :
    ∃ l, SlR knK W [] l a len cap := by
  obtain ⟨fuel, hf⟩ := k
  obtain ⟨a', len', cap', l, e, hS⟩ := opens_slice (K := knK) Try.underlying23 (by kernel_rfl) opens_knot hf
  simp [Value.cells] at e
  obtain ⟨rfl, rfl, rfl⟩ := e
  exact ⟨l, hS⟩
end Go.Proofs.Ytppnmeobnilojaa
