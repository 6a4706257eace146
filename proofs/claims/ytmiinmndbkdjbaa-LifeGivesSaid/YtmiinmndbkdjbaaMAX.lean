/- A part of the proof: Open, OpenV, one behind another. -/
import Derived.Test.YtmiinmndbkdjbaaMAA
import Derived.Test.YtmiinmndbkdjbaaMAB
import Derived.Test.YtmiinmndbkdjbaaMAC
import Derived.Test.YtmiinmndbkdjbaaMAD
import Derived.Test.YtmiinmndbkdjbaaMAE
import Derived.Test.YtmiinmndbkdjbaaMAF
import Derived.Test.YtmiinmndbkdjbaaMAG
import Derived.Test.YtmiinmndbkdjbaaMAH
import Derived.Test.YtmiinmndbkdjbaaMAI
import Derived.Test.YtmiinmndbkdjbaaMAJ
import Derived.Test.YtmiinmndbkdjbaaMAK
import Derived.Test.YtmiinmndbkdjbaaMAL
import Derived.Test.YtmiinmndbkdjbaaMAM
import Derived.Test.YtmiinmndbkdjbaaMAN
import Derived.Test.YtmiinmndbkdjbaaMAO
import Derived.Test.YtmiinmndbkdjbaaMAQ
import Derived.Test.YtmiinmndbkdjbaaMAR
import Derived.Test.YtmiinmndbkdjbaaMAS
import Derived.Test.YtmiinmndbkdjbaaMAT
import Derived.Test.YtmiinmndbkdjbaaMAU
import Derived.Test.YtmiinmndbkdjbaaMAV
import Derived.Test.YtmiinmndbkdjbaaMAW
import Derived.WalkKit
import Derived.ProofKit
import Derived.OpenShut
import Derived.ShutString
import Derived.ChangeOld
import Derived.Below
import Derived.Deep.Slices
import Derived.Deep.Fields
import Derived.ChangeSame
/- What came in, opened: slices of ints, of strings, of structs of such. -/
namespace Go.Proofs.Ytmiinmndbkdjbaa
set_option linter.unusedVariables false
set_option linter.unusedSimpArgs false
open Go.ChangeShapes Go.WideShapes Go.ChangeAt Go.RowKit Go.Deep
def Opens {α : Type} (P : Program) (e : TypeId) (K : Elt α) : Prop :=
  ∀ (H : Type) (enc : TypeId × Value → H) (W : World) (fuel : Nat) (cs : List Value) (x : DataW H × List MemPlace), DataW.trod enc P W 0 (fun _ => true) true fuel e cs = some x → ∃ d, K.R W [] d cs
theorem i64_of {n : Int} (h : (Lit.int .i64 n).wf = true) : I64 n := by
  simp [Lit.wf, IntKind.min, IntKind.max, IntKind.signed, IntKind.bits] at h
  unfold I64
  omega
theorem opens_int {P : Program} {t : TypeId} (ht : P.underlying t = some (.int .i64)) : Opens P t i64K := by
  intro H enc W fuel cs x h
  obtain ⟨n, rfl, _, hw⟩ := DataW.trod_int ht h
  exact ⟨n, rfl, i64_of hw⟩
theorem pick_all {α : Type} {Q : Nat → α → List Value → Prop} : ∀ (len : Nat), (∀ i, i < len → ∃ d c, Q i d c) → ∃ (l : List α) (vs : List (List Value)), l.length = len ∧ vs.length = len ∧ ∀ i d c, l[i]? = some d → vs[i]? = some c → Q i d c := by
  intro len
  induction len with
  | zero => intro _; exact ⟨[], [], rfl, rfl, fun i d c h _ => by simp at h⟩
  | succ n ih =>
    intro h
    obtain ⟨l, vs, h1, h2, h3⟩ := ih (fun i hi => h i (by omega))
    obtain ⟨d, c, hq⟩ := h n (by omega)
    refine ⟨l ++ [d], vs ++ [c], by simp [h1], by simp [h2], fun i d' c' hd hc => ?_⟩
    rcases Nat.lt_or_ge i n with hi | hi
    · rw [List.getElem?_append_left (by omega)] at hd hc
      exact h3 i d' c' hd hc
    · have hin : i = n := by
        have := (List.getElem?_eq_some_iff.1 hd).1; simp at this; omega
      subst hin
      rw [List.getElem?_append_right (by omega), h1, Nat.sub_self] at hd
      rw [List.getElem?_append_right (by omega), h2, Nat.sub_self] at hc
      injection hd with hd; injection hc with hc
      subst hd; subst hc
      exact hq
theorem opens_slice {α : Type} {K : Elt α} {P : Program} {t e : TypeId} (ht : P.underlying t = some (.slice e)) (hK : P.cellsOf e = K.sz) (he : Opens P e K) {H : Type} {enc : TypeId × Value → H} {W : World} {fuel : Nat} {cs : List Value} {x : DataW H × List MemPlace}
    (h : DataW.trod enc P W 0 (fun _ => true) true fuel t cs = some x) : ∃ a len cap l, cs = [.slice a len cap] ∧ SlR K W [] l a len cap := by
  rcases open_slice ht h with ⟨rfl, _⟩ | ⟨a, len, cap, m, n, D, Pl, rfl, _, hl, hm, hmm, _, hi⟩
  · exact ⟨none, 0, 0, [], rfl, SlR.nil K W []⟩
  · have hmx : cap ≤ 9223372036854775807 := by
      have : maxLen = 9223372036854775807 := by decide
      omega
    rw [if_pos rfl] at hmm
    obtain ⟨l, vs, h1, h2, h3⟩ := pick_all (Q := fun i d c => K.R W [] d c ∧ c.length = K.sz ∧ ∀ j u, c[j]? = some u → W.cell? (a.add (i * K.sz + j)) = some u) len (fun i hi' => by
      obtain ⟨c, hc, ht'⟩ := hi i (by omega)
      obtain ⟨d, hd⟩ := he H enc W n c _ ht'
      obtain ⟨_, hcl, hat⟩ := World.cells?_some hc
      rw [hK] at hcl hat
      refine ⟨d, c, hd, hcl, fun j u hj => ?_⟩
      have hjs : j < K.sz := by rw [← hcl]; exact (List.getElem?_eq_some_iff.1 hj).1
      rw [← Go.Deep.add_add, hat j hjs]
      exact hj)
    refine ⟨some a, len, cap, l, rfl, vs, by rw [h1, h2], fun i d c hd hc => (h3 i d c hd hc).1, h2, hl, hmx, fun hp => ?_⟩
    have hv0 : vs[0]? = some (vs[0]'(by omega)) := List.getElem?_eq_getElem (by omega)
    have hl0 : l[0]? = some (l[0]'(by omega)) := List.getElem?_eq_getElem (by omega)
    obtain ⟨_, hlen0, hcell0⟩ := h3 0 _ _ hl0 hv0
    have hK0 := K.pos
    have hz := hcell0 0 _ (List.getElem?_eq_getElem (by omega))
    obtain ⟨b, off, spot⟩ := a
    obtain rfl : spot = none := by simpa [Addr.add] using World.cell?_spot hz
    have hblt := cell_lt hz
    rw [show (⟨b, off, none⟩ : Addr).add (0 * K.sz + 0) = ⟨b, off + (0 * K.sz + 0), none⟩ from Mem.add_off _ _ _] at hblt
    refine ⟨b, off, rfl, hblt, List.not_mem_nil, fun i c hc => ?_⟩
    have hlt : i < l.length := by rw [h1, ← h2]; exact (List.getElem?_eq_some_iff.1 hc).1
    obtain ⟨_, g2, g3⟩ := h3 i _ c (List.getElem?_eq_getElem hlt) hc
    refine ⟨g2, fun j u hj => ?_⟩
    have := g3 j u hj
    rw [Mem.add_off, ← Nat.add_assoc] at this
    exact this
/-- A struct of one-cell fields: each field's cell. -/
theorem opens_struct {P : Program} {e : TypeId} {fs : Array Field} (he : P.underlying e = some (.struct fs)) (hone : oneCellFields P fs = true) (hC : P.cellsOf e = fs.size) {H : Type} {enc : TypeId × Value → H} {W : World} {fuel : Nat} {cs : List Value} {x : DataW H × List MemPlace}
    (h : DataW.trod enc P W 0 (fun _ => true) true fuel e cs = some x) : cs.length = fs.size ∧ ∀ (j : Nat) (f : Field), fs[j]? = some f → ∃ v n y, cs[j]? = some v ∧ DataW.trod enc P W 0 (fun _ => true) true n f.type [v] = some y := by
  obtain ⟨ys, n', hn', hy, hlen, hyl, hf⟩ := DataW.trod_struct he h
  refine ⟨by rw [hlen, hC], fun j f hj => ?_⟩
  obtain ⟨ho, hk⟩ := hone_of hone j f hj
  have hjl : j < fs.size := (Array.getElem?_eq_some_iff.1 hj).1
  have hv : cs[j]? = some (cs[j]'(by omega)) := List.getElem?_eq_getElem (by omega)
  have h1 := hf j f hj
  rw [ho, hk] at h1
  have hone' : (cs.drop j).take 1 = [cs[j]'(by omega)] := by
    rw [List.drop_eq_getElem_cons (by omega)]
    rfl
  rw [hone'] at h1
  have hys : ys[j]? = some (ys[j]'(by omega)) := List.getElem?_eq_getElem (by omega)
  exact ⟨_, _, _, hv, h1.trans hys⟩
theorem four_list {α : Type} {cs : List α} (h : cs.length = 4) {a b c d : α} (h0 : cs[0]? = some a) (h1 : cs[1]? = some b) (h2 : cs[2]? = some c) (h3 : cs[3]? = some d) : cs = [a, b, c, d] := by
  match cs, h with
  | [p, q, r, s], _ => simp at h0 h1 h2 h3; subst h0; subst h1; subst h2; subst h3; rfl
theorem opens_leaf : Opens Try.prog 83 lfK := by
  intro H enc W fuel cs x h
  obtain ⟨hl, hf⟩ := opens_struct Try.underlying83 (by kernel_rfl) (by kernel_rfl) h
  obtain ⟨v0, n0, y0, c0, t0⟩ := hf 0 _ rfl
  obtain ⟨v1, n1, y1, c1, t1⟩ := hf 1 _ rfl
  obtain ⟨v2, n2, y2, c2, t2⟩ := hf 2 _ rfl
  obtain ⟨v3, n3, y3, c3, t3⟩ := hf 3 _ rfl
  obtain ⟨a, e0, _, w0⟩ := DataW.trod_int (k := .i64) Try.underlying3 t0
  obtain ⟨b, e1, _, w1⟩ := DataW.trod_int (k := .i64) Try.underlying2 t1
  obtain ⟨s, e2, _, w2⟩ := DataW.trod_string Try.underlying9 t2
  obtain ⟨p, len, cap, l, e3, hS⟩ := opens_slice (K := i64K) Try.underlying56 (by kernel_rfl) (opens_int Try.underlying3) t3
  injection e0 with e0; injection e1 with e1; injection e2 with e2; injection e3 with e3
  subst e0; subst e1; subst e2; subst e3
  have hll := hS.facts.1
  subst hll
  exact ⟨⟨a, b, s, l⟩, p, cap, four_list hl c0 c1 c2 c3, i64_of w0, i64_of w1, (show s.size ≤ 9223372036854775807 by unfold maxLen at w2; omega), hS⟩
theorem opens_knot : Opens Try.prog 87 knK := by
  intro H enc W fuel cs x h
  obtain ⟨hl, hf⟩ := opens_struct Try.underlying87 (by kernel_rfl) (by kernel_rfl) h
  obtain ⟨v0, n0, y0, c0, t0⟩ := hf 0 _ rfl
  obtain ⟨v1, n1, y1, c1, t1⟩ := hf 1 _ rfl
  obtain ⟨v2, n2, y2, c2, t2⟩ := hf 2 _ rfl
  obtain ⟨v3, n3, y3, c3, t3⟩ := hf 3 _ rfl
  obtain ⟨a, e0, _, w0⟩ := DataW.trod_int (k := .i64) Try.underlying3 t0
  obtain ⟨s, e1, _, w1⟩ := DataW.trod_string Try.underlying9 t1
  obtain ⟨p, len, cap, l, e2, hS⟩ := opens_slice (K := i64K) Try.underlying56 (by kernel_rfl) (opens_int Try.underlying3) t2
  obtain ⟨p2, len2, cap2, l2, e3, hS2⟩ := opens_slice (K := i64K) Try.underlying56 (by kernel_rfl) (opens_int Try.underlying3) t3
  injection e0 with e0; injection e1 with e1; injection e2 with e2; injection e3 with e3
  subst e0; subst e1; subst e2; subst e3
  have hll := hS.facts.1
  subst hll
  have hll2 := hS2.facts.1
  subst hll2
  exact ⟨⟨a, s, l, l2⟩, p, cap, p2, cap2, four_list hl c0 c1 c2 c3, i64_of w0, (show s.size ≤ 9223372036854775807 by unfold maxLen at w1; omega), hS, hS2⟩
theorem leaves_of {H : Type} {enc : TypeId × Value → H} {W : World} {a : Option Addr} {len cap : Nat} {x : DataW H × List MemPlace} (k : ∃ fuel, DataW.trod enc Try.prog W 0 (fun _ => true) true fuel 22 (Value.cells (.slice a len cap)).toList = some x) :
    ∃ l, SlR lfK W [] l a len cap := by
  obtain ⟨fuel, hf⟩ := k
  obtain ⟨a', len', cap', l, e, hS⟩ := opens_slice (K := lfK) Try.underlying22 (by kernel_rfl) opens_leaf hf
  simp [Value.cells] at e
  obtain ⟨rfl, rfl, rfl⟩ := e
  exact ⟨l, hS⟩
theorem knots_of {H : Type} {enc : TypeId × Value → H} {W : World} {a : Option Addr} {len cap : Nat} {x : DataW H × List MemPlace} (k : ∃ fuel, DataW.trod enc Try.prog W 0 (fun _ => true) true fuel 23 (Value.cells (.slice a len cap)).toList = some x) :
    ∃ l, SlR knK W [] l a len cap := by
  obtain ⟨fuel, hf⟩ := k
  obtain ⟨a', len', cap', l, e, hS⟩ := opens_slice (K := knK) Try.underlying23 (by kernel_rfl) opens_knot hf
  simp [Value.cells] at e
  obtain ⟨rfl, rfl, rfl⟩ := e
  exact ⟨l, hS⟩
end Go.Proofs.Ytmiinmndbkdjbaa

/- What came in, opened: fixings, and what is seen. -/
namespace Go.Proofs.Ytmiinmndbkdjbaa
set_option linter.unusedVariables false
set_option linter.unusedSimpArgs false
open Go.ChangeShapes Go.WideShapes Go.ChangeAt Go.RowKit Go.Deep
theorem three_list {α : Type} {cs : List α} (h : cs.length = 3) {a b c : α} (h0 : cs[0]? = some a) (h1 : cs[1]? = some b) (h2 : cs[2]? = some c) : cs = [a, b, c] := by
  match cs, h with
  | [p, q, r], _ => simp at h0 h1 h2; subst h0; subst h1; subst h2; rfl
theorem two_list {α : Type} {cs : List α} (h : cs.length = 2) {a b : α} (h0 : cs[0]? = some a) (h1 : cs[1]? = some b) : cs = [a, b] := by
  match cs, h with
  | [p, q], _ => simp at h0 h1; subst h0; subst h1; rfl
theorem opens_fixing : Opens Try.prog 75 fxK := by
  intro H enc W fuel cs x h
  obtain ⟨hl, hf⟩ := opens_struct Try.underlying75 (by kernel_rfl) (by kernel_rfl) h
  obtain ⟨v0, n0, y0, c0, t0⟩ := hf 0 _ rfl
  obtain ⟨v1, n1, y1, c1, t1⟩ := hf 1 _ rfl
  obtain ⟨v2, n2, y2, c2, t2⟩ := hf 2 _ rfl
  obtain ⟨s, e0, _, w0⟩ := DataW.trod_string Try.underlying9 t0
  obtain ⟨a, e1, _, w1⟩ := DataW.trod_int (k := .i64) Try.underlying3 t1
  obtain ⟨b, e2, _, w2⟩ := DataW.trod_int (k := .i64) Try.underlying2 t2
  injection e0 with e0; injection e1 with e1; injection e2 with e2
  subst e0; subst e1; subst e2
  exact ⟨⟨s, a, b⟩, three_list hl c0 c1 c2, (show s.size ≤ 9223372036854775807 by unfold maxLen at w0; omega), i64_of w1, i64_of w2⟩
set_option maxRecDepth 100000 in
theorem env_of {H : Type} {enc : TypeId × Value → H} {W : World} {base : Nat} {v : Value} {x : DataW H × List MemPlace} (hv : Value.okWide Try.prog W .any base 26 v) (k : ∃ fuel, DataW.trod enc Try.prog W 0 (fun _ => true) true fuel 26 (Value.cells v).toList = some x) :
    ∃ day a len cap fx, v = .agg #[.int .i64 day, .slice a len cap] ∧ I64 day ∧ SlR fxK W [] fx a len cap := by
  obtain ⟨cs, rfl, -⟩ := okWide_struct Try.underlying26 hv
  obtain ⟨fuel, h⟩ := k
  obtain ⟨hl, hf⟩ := opens_struct Try.underlying26 (by kernel_rfl) (by kernel_rfl) h
  obtain ⟨v0, n0, y0, c0, t0⟩ := hf 0 _ rfl
  obtain ⟨v1, n1, y1, c1, t1⟩ := hf 1 _ rfl
  obtain ⟨a, e0, _, w0⟩ := DataW.trod_int (k := .i64) Try.underlying3 t0
  obtain ⟨p, len, cap, l, e1, hS⟩ := opens_slice (K := fxK) Try.underlying24 (by kernel_rfl) opens_fixing t1
  injection e0 with e0; injection e1 with e1
  subst e0; subst e1
  refine ⟨a, p, len, cap, l, ?_, i64_of w0, hS⟩
  have hcs : cs.toList = [.int .i64 a, .slice p len cap] := two_list hl c0 c1
  rw [show cs = #[.int .i64 a, .slice p len cap] by rw [← Array.toArray_toList (xs := cs), hcs]]
set_option maxRecDepth 100000 in
theorem fixing_of {H : Type} {enc : TypeId × Value → H} {W : World} {base : Nat} {v : Value} {x : DataW H × List MemPlace} (hv : Value.okWide Try.prog W .any base 75 v) (k : ∃ fuel, DataW.trod enc Try.prog W 0 (fun _ => true) true fuel 75 (Value.cells v).toList = some x) :
    ∃ f : Fx, v = .agg #[.string f.name, .int .i64 f.day, .int .i64 f.val] ∧ f.name.size ≤ 9223372036854775807 ∧ I64 f.day ∧ I64 f.val := by
  obtain ⟨cs, rfl, -⟩ := okWide_struct Try.underlying75 hv
  obtain ⟨fuel, h⟩ := k
  obtain ⟨f, hf, h1, h2, h3⟩ := opens_fixing H enc W fuel _ x h
  refine ⟨f, ?_, h1, h2, h3⟩
  have hcs : cs.toList = [.string f.name, .int .i64 f.day, .int .i64 f.val] := hf
  rw [show cs = #[.string f.name, .int .i64 f.day, .int .i64 f.val] by rw [← Array.toArray_toList (xs := cs), hcs]]
end Go.Proofs.Ytmiinmndbkdjbaa
