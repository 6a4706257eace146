/- A part of the proof: Open, OpenL, ToX, ToL, one behind another. -/
import Derived.Test.YtgbiimoednmlgaaMSA
import Derived.Test.YtgbiimoednmlgaaMSB
import Derived.Test.YtgbiimoednmlgaaMSC
import Derived.Test.YtgbiimoednmlgaaMSD
import Derived.Test.YtgbiimoednmlgaaMSE
import Derived.Test.YtgbiimoednmlgaaMSF
import Derived.Test.YtgbiimoednmlgaaMSG
import Derived.Test.YtgbiimoednmlgaaMSH
import Derived.Test.YtgbiimoednmlgaaMSI
import Derived.WalkKit
import Derived.ProofKit
import Derived.OpenShut
import Derived.ShutString
import Derived.ChangeOld
import Derived.Below
import Derived.Deep.Slices
import Derived.Deep.Fields
import Derived.ChangeSame
/- What came in, opened: slices of ints, of strings, of structs of such. -/
namespace Go.Proofs.Ytgbiimoednmlgaa
set_option linter.unusedVariables false
set_option linter.unusedSimpArgs false
open Go.ChangeShapes Go.WideShapes Go.ChangeAt Go.RowKit Go.Deep
def Opens {α : Type} (P : Program) (e : TypeId) (K : Elt α) : Prop :=
  ∀ (H : Type) (enc : TypeId × Value → H) (W : World) (fuel : Nat) (cs : List Value) (x : DataW H × List MemPlace), DataW.trod enc P W 0 (fun _ => true) true fuel e cs = some x → ∃ d, K.R W [] d cs
theorem i64_of {n : Int} (h : (Lit.int .i64 n).wf = true) : I64 n := by
  simp [Lit.wf, IntKind.min, IntKind.max, IntKind.signed, IntKind.bits] at h
  unfold I64
  omega
theorem opens_int {P : Program} {t : TypeId} (ht : P.underlying t = some (.int .i64)) : Opens P t i64K := by
  intro H enc W fuel cs x h
  obtain ⟨n, rfl, _, hw⟩ := DataW.trod_int ht h
  exact ⟨n, rfl, i64_of hw⟩
theorem pick_all {α : Type} {Q : Nat → α → List Value → Prop} : ∀ (len : Nat), (∀ i, i < len → ∃ d c, Q i d c) → ∃ (l : List α) (vs : List (List Value)), l.length = len ∧ vs.length = len ∧ ∀ i d c, l[i]? = some d → vs[i]? = some c → Q i d c := by
  intro len
  induction len with
  | zero => intro _; exact ⟨[], [], rfl, rfl, fun i d c h _ => by simp at h⟩
  | succ n ih =>
    intro h
    obtain ⟨l, vs, h1, h2, h3⟩ := ih (fun i hi => h i (by omega))
    obtain ⟨d, c, hq⟩ := h n (by omega)
    refine ⟨l ++ [d], vs ++ [c], by simp [h1], by simp [h2], fun i d' c' hd hc => ?_⟩
    rcases Nat.lt_or_ge i n with hi | hi
    · rw [List.getElem?_append_left (by omega)] at hd hc
      exact h3 i d' c' hd hc
    · have hin : i = n := by
        have := (List.getElem?_eq_some_iff.1 hd).1; simp at this; omega
      subst hin
      rw [List.getElem?_append_right (by omega), h1, Nat.sub_self] at hd
      rw [List.getElem?_append_right (by omega), h2, Nat.sub_self] at hc
      injection hd with hd; injection hc with hc
      subst hd; subst hc
      exact hq
theorem opens_slice {α : Type} {K : Elt α} {P : Program} {t e : TypeId} (ht : P.underlying t = some (.slice e)) (hK : P.cellsOf e = K.sz) (he : Opens P e K) {H : Type} {enc : TypeId × Value → H} {W : World} {fuel : Nat} {cs : List Value} {x : DataW H × List MemPlace}
    (h : DataW.trod enc P W 0 (fun _ => true) true fuel t cs = some x) : ∃ a len cap l, cs = [.slice a len cap] ∧ SlR K W [] l a len cap := by
  rcases open_slice ht h with ⟨rfl, _⟩ | ⟨a, len, cap, m, n, D, Pl, rfl, _, hl, hm, hmm, _, hi⟩
  · exact ⟨none, 0, 0, [], rfl, SlR.nil K W []⟩
  · have hmx : cap ≤ 9223372036854775807 := by
      have : maxLen = 9223372036854775807 := by decide
      omega
    rw [if_pos rfl] at hmm
    obtain ⟨l, vs, h1, h2, h3⟩ := pick_all (Q := fun i d c => K.R W [] d c ∧ c.length = K.sz ∧ ∀ j u, c[j]? = some u → W.cell? (a.add (i * K.sz + j)) = some u) len (fun i hi' => by
      obtain ⟨c, hc, ht'⟩ := hi i (by omega)
      obtain ⟨d, hd⟩ := he H enc W n c _ ht'
      obtain ⟨_, hcl, hat⟩ := World.cells?_some hc
      rw [hK] at hcl hat
      refine ⟨d, c, hd, hcl, fun j u hj => ?_⟩
      have hjs : j < K.sz := by rw [← hcl]; exact (List.getElem?_eq_some_iff.1 hj).1
      rw [← Go.Deep.add_add, hat j hjs]
      exact hj)
    refine ⟨some a, len, cap, l, rfl, vs, by rw [h1, h2], fun i d c hd hc => (h3 i d c hd hc).1, h2, hl, hmx, fun hp => ?_⟩
    have hv0 : vs[0]? = some (vs[0]'(by omega)) := List.getElem?_eq_getElem (by omega)
    have hl0 : l[0]? = some (l[0]'(by omega)) := List.getElem?_eq_getElem (by omega)
    obtain ⟨_, hlen0, hcell0⟩ := h3 0 _ _ hl0 hv0
    have hK0 := K.pos
    have hz := hcell0 0 _ (List.getElem?_eq_getElem (by omega))
    obtain ⟨b, off, spot⟩ := a
    obtain rfl : spot = none := by simpa [Addr.add] using World.cell?_spot hz
    have hblt := cell_lt hz
    rw [show (⟨b, off, none⟩ : Addr).add (0 * K.sz + 0) = ⟨b, off + (0 * K.sz + 0), none⟩ from Mem.add_off _ _ _] at hblt
    refine ⟨b, off, rfl, hblt, List.not_mem_nil, fun i c hc => ?_⟩
    have hlt : i < l.length := by rw [h1, ← h2]; exact (List.getElem?_eq_some_iff.1 hc).1
    obtain ⟨_, g2, g3⟩ := h3 i _ c (List.getElem?_eq_getElem hlt) hc
    refine ⟨g2, fun j u hj => ?_⟩
    have := g3 j u hj
    rw [Mem.add_off, ← Nat.add_assoc] at this
    exact this
/-- A struct of one-cell fields: each field's cell. -/
theorem opens_struct {P : Program} {e : TypeId} {fs : Array Field} (he : P.underlying e = some (.struct fs)) (hone : oneCellFields P fs = true) (hC : P.cellsOf e = fs.size) {H : Type} {enc : TypeId × Value → H} {W : World} {fuel : Nat} {cs : List Value} {x : DataW H × List MemPlace}
    (h : DataW.trod enc P W 0 (fun _ => true) true fuel e cs = some x) : cs.length = fs.size ∧ ∀ (j : Nat) (f : Field), fs[j]? = some f → ∃ v n y, cs[j]? = some v ∧ DataW.trod enc P W 0 (fun _ => true) true n f.type [v] = some y := by
  obtain ⟨ys, n', hn', hy, hlen, hyl, hf⟩ := DataW.trod_struct he h
  refine ⟨by rw [hlen, hC], fun j f hj => ?_⟩
  obtain ⟨ho, hk⟩ := hone_of hone j f hj
  have hjl : j < fs.size := (Array.getElem?_eq_some_iff.1 hj).1
  have hv : cs[j]? = some (cs[j]'(by omega)) := List.getElem?_eq_getElem (by omega)
  have h1 := hf j f hj
  rw [ho, hk] at h1
  have hone' : (cs.drop j).take 1 = [cs[j]'(by omega)] := by
    rw [List.drop_eq_getElem_cons (by omega)]
    rfl
  rw [hone'] at h1
  have hys : ys[j]? = some (ys[j]'(by omega)) := List.getElem?_eq_getElem (by omega)
  exact ⟨_, _, _, hv, h1.trans hys⟩
theorem four_list {α : Type} {cs : List α} (h : cs.length = 4) {a b c d : α} (h0 : cs[0]? = some a) (h1 : cs[1]? = some b) (h2 : cs[2]? = some c) (h3 : cs[3]? = some d) : cs = [a, b, c, d] := by
  match cs, h with
  | [p, q, r, s], _ => simp at h0 h1 h2 h3; subst h0; subst h1; subst h2; subst h3; rfl
end Go.Proofs.Ytgbiimoednmlgaa

/- What came in, opened: accounts, moves. -/
namespace Go.Proofs.Ytgbiimoednmlgaa
set_option linter.unusedVariables false
set_option linter.unusedSimpArgs false
open Go.ChangeShapes Go.WideShapes Go.ChangeAt Go.RowKit Go.Deep
theorem three_list {α : Type} {cs : List α} (h : cs.length = 3) {a b c : α} (h0 : cs[0]? = some a) (h1 : cs[1]? = some b) (h2 : cs[2]? = some c) : cs = [a, b, c] := by
  match cs, h with
  | [p, q, r], _ => simp at h0 h1 h2; subst h0; subst h1; subst h2; rfl
theorem opens_acct : Opens Try.prog 58 acctK := by
  intro H enc W fuel cs x h
  obtain ⟨hl, hf⟩ := opens_struct Try.underlying58 (by kernel_rfl) (by kernel_rfl) h
  obtain ⟨v0, n0, y0, c0, t0⟩ := hf 0 _ rfl
  obtain ⟨v1, n1, y1, c1, t1⟩ := hf 1 _ rfl
  obtain ⟨v2, n2, y2, c2, t2⟩ := hf 2 _ rfl
  obtain ⟨a0, e0, _, w0⟩ := DataW.trod_string Try.underlying9 t0
  obtain ⟨a1, e1, _, w1⟩ := DataW.trod_string Try.underlying9 t1
  obtain ⟨a2, e2, _, w2⟩ := DataW.trod_int (k := .i64) Try.underlying2 t2
  injection e0 with e0; injection e1 with e1; injection e2 with e2
  subst e0; subst e1; subst e2
  exact ⟨⟨a0, a1, a2⟩, three_list hl c0 c1 c2, ⟨w0, w1, i64_of w2⟩⟩
theorem opens_mv : Opens Try.prog 40 mvK := by
  intro H enc W fuel cs x h
  obtain ⟨hl, hf⟩ := opens_struct Try.underlying40 (by kernel_rfl) (by kernel_rfl) h
  obtain ⟨v0, n0, y0, c0, t0⟩ := hf 0 _ rfl
  obtain ⟨v1, n1, y1, c1, t1⟩ := hf 1 _ rfl
  obtain ⟨v2, n2, y2, c2, t2⟩ := hf 2 _ rfl
  obtain ⟨v3, n3, y3, c3, t3⟩ := hf 3 _ rfl
  obtain ⟨a0, e0, _, w0⟩ := DataW.trod_string Try.underlying9 t0
  obtain ⟨a1, e1, _, w1⟩ := DataW.trod_string Try.underlying9 t1
  obtain ⟨a2, e2, _, w2⟩ := DataW.trod_string Try.underlying9 t2
  obtain ⟨a3, e3, _, w3⟩ := DataW.trod_int (k := .i64) Try.underlying2 t3
  injection e0 with e0; injection e1 with e1; injection e2 with e2; injection e3 with e3
  subst e0; subst e1; subst e2; subst e3
  exact ⟨⟨a0, a1, a2, a3⟩, four_list hl c0 c1 c2 c3, ⟨w0, w1, w2, i64_of w3⟩⟩
theorem accts_of {H : Type} {enc : TypeId × Value → H} {W : World} {a : Option Addr} {len cap : Nat} {x : DataW H × List MemPlace} (k : ∃ fuel, DataW.trod enc Try.prog W 0 (fun _ => true) true fuel 22 (Value.cells (.slice a len cap)).toList = some x) : ∃ l, SlR acctK W [] l a len cap := by
  obtain ⟨fuel, hf⟩ := k
  obtain ⟨a', len', cap', l, e, hS⟩ := opens_slice (K := acctK) Try.underlying22 (by kernel_rfl) opens_acct hf
  have e' : (Value.slice a len cap) = .slice a' len' cap' := by
    have := List.head_eq_of_cons_eq e
    exact this
  injection e' with h1 h2 h3
  subst h1; subst h2; subst h3
  exact ⟨l, hS⟩
theorem mvs_of {H : Type} {enc : TypeId × Value → H} {W : World} {a : Option Addr} {len cap : Nat} {x : DataW H × List MemPlace} (k : ∃ fuel, DataW.trod enc Try.prog W 0 (fun _ => true) true fuel 23 (Value.cells (.slice a len cap)).toList = some x) : ∃ l, SlR mvK W [] l a len cap := by
  obtain ⟨fuel, hf⟩ := k
  obtain ⟨a', len', cap', l, e, hS⟩ := opens_slice (K := mvK) Try.underlying23 (by kernel_rfl) opens_mv hf
  have e' : (Value.slice a len cap) = .slice a' len' cap' := by
    have := List.head_eq_of_cons_eq e
    exact this
  injection e' with h1 h2 h3
  subst h1; subst h2; subst h3
  exact ⟨l, hS⟩
end Go.Proofs.Ytgbiimoednmlgaa

/- Settling flows: the document's, and the law, walked. -/
namespace Go.Proofs.Ytgbiimoednmlgaa
set_option linter.unusedVariables false
set_option linter.unusedSimpArgs false
open Go.RowKit Go.ChangeShapes
set_option maxRecDepth 100000 in
set_option maxHeartbeats 8000000 in
theorem rsettle_any (fl : List Flw) (a : Option Addr) (len cap : Nat) (h wr : ByteArray) (w : World) (hS : SlR flK w [] fl a len cap) (hlen : len ≤ 1000) (hh : h.size ≤ maxLen) (hw : wr.size ≤ maxLen) :
    Calls Try.prog 32 #[.slice a len cap, .string h, .string wr] w fun x w' => SetR (fun b => .bool b) w' fl h wr x ∧ Below w.heap.size w w' := by
  have HSZ : Hid (h.size ≤ maxLen ∧ wr.size ≤ maxLen) := ⟨hh, hw⟩
  have HTO := Lib.hid (rtotal_any fl a len cap w hS hlen)
  have HFL : Hid (fl.length ≤ 1000) := by have := hS.facts.1; show _ ≤ _; omega
  clear hS hlen hh hw
  go_enter Try.func32, Try.ntmps32
  go_wp2_with fail
  go_at_call 65
  (with_reducible refine HTO.out.mono ?_)
  rintro x w2 ⟨⟨out, ta, tc, tb, rfl, hso, htv, hol⟩, b2⟩
  have HSO := Lib.hid hso
  have HTV := Lib.hid htv
  have HOL := Lib.hid hol
  have HB2 := Lib.hid b2
  clear HTO hso htv hol b2
  cases tb with
  | false =>
    go_wp2_with fail
    go_ret2
    exact ⟨⟨[], none, 0, false, rfl, SlR.nil _ _ _, ⟨out, false, HTV.out, .inl ⟨rfl, rfl, .inl rfl⟩⟩, Nat.zero_le _⟩, HB2.out⟩
  | true =>
    go_wp2_with fail
    go_loopw [10, 11] (fun v10 vi wr' => ∃ (k : Nat) (oa : Option Addr) (oc : Nat), v10 = .slice oa k oc ∧ vi = .int .i64 (k : Nat) ∧ k ≤ out.length ∧ Hid (wr'.ownsRow w2.heap.size 40 4 (.slice oa k oc) k (outM ((out.take k).map (setM h wr))) ∧ Below w2.heap.size w2 wr' ∧ ∀ f ∈ out.take k, f.amt ≠ -9223372036854775808)) (fun _ vi _ => out.length - (intOf vi).toNat)
    case atStart => exact ⟨0, none, 0, rfl, rfl, Nat.zero_le _, World.ownsRow_nil _ _ _ _, Below.refl _ _, fun f hf => nomatch hf⟩
    case round =>
      rename World => w3
      obtain ⟨k, oa, oc, rfl, rfl, hk, HR⟩ := hrel
      have k1 : (k : Int) ≤ 1000 := by have := HOL.out; have := HFL.out; omega
      by_cases hkt : k < out.length
      · have hkt' : (k : Int) < (out.length : Int) := by omega
        have k0 : (0 : Int) ≤ (k : Int) := by omega
        obtain ⟨b, o, f, ha, hf, hok, u0, u1⟩ := fl_at HSO.out k hkt
        have HA := Lib.hid ha
        subst ha
        have HF := Lib.hid hf
        have HTT := Lib.hid (take_snoc hf)
        have HMT := Lib.hid (map_take_snoc (setM h wr) hf)
        have HKT := Lib.hid hkt
        have HAM : Hid (-9223372036854775808 ≤ f.amt ∧ f.amt ≤ 9223372036854775807) := hok.amt
        have HU0 := Lib.hid u0
        have HU1 := Lib.hid u1
        have HNM := Lib.hid HR.out.2.2
        clear hf hok hkt
        replace u0 := cellT u0 HR.out.2.1
        replace u1 := cellT u1 HR.out.2.1
        go_wp2_with fail
        go_at_call 40
        (with_reducible refine (bigof_any f.amt _ HAM.out.1 HAM.out.2).mono ?_)
        rintro e w4 ⟨⟨r4, rfl, hr4⟩, b4⟩
        go_wp2_with fail
        go_at_call 42
        (with_reducible refine (minus_any _ _ _ hr4).mono ?_)
        rintro e w5 ⟨⟨r5, rfl, hr5⟩, b5⟩
        go_wp2_with fail
        go_at_call 43
        (with_reducible refine (small_any _ _ _ hr5 (Sm.int _ (by have := HAM.out; omega))).mono ?_)
        rintro e w6 ⟨rfl, b6⟩
        have hb := (b4.trans (b5.mono b4.size)).trans (b6.mono (b4.trans (b5.mono b4.size)).size)
        have HO := Lib.hid (own_below HR.out.1 hb)
        have HB := Lib.hid (HR.out.2.1.trans (hb.mono HR.out.2.1.size))
        clear hr4 hr5 b4 b5 b6 hb HR u0 u1
        by_cases hmin : f.amt = -9223372036854775808
        · have e1 : smB (-f.amt) = false := by rw [hmin]; decide
          have e2 : smN (-f.amt) = 0 := by rw [hmin]; decide
          have HV : Hid (SetV fl h wr [] false) := ⟨out, true, HTV.out, .inl ⟨rfl, rfl, .inr ⟨f, List.mem_of_getElem? HF.out, hmin⟩⟩⟩
          rw [e1, e2]
          clear hmin HMT HTT e1 e2
          go_wp2_with fail
          go_ret2
          exact ⟨⟨[], none, 0, false, rfl, SlR.nil _ _ _, HV.out, Nat.zero_le _⟩, HB2.out.trans (HB.out.mono HB2.out.size)⟩
        · have e1 : smB (-f.amt) = true := by unfold smB; exact decide_eq_true (by have := HAM.out; omega)
          have e2 : smN (-f.amt) = -f.amt := by unfold smN; rw [e1]; rfl
          rw [e1, e2]
          clear e1 e2
          have HNM2 : Hid (∀ g ∈ out.take (k + 1), g.amt ≠ -9223372036854775808) := by
            intro g hg
            rw [HTT.out] at hg
            rcases List.mem_append.1 hg with hg | hg
            · exact HNM.out g hg
            · rw [List.mem_singleton] at hg; subst hg; exact hmin
          have u0 : w6.cell? ⟨b, o + k * 2, none⟩ = some (.string f.coin) := cellT HU0.out HB.out
          have u1 : w6.cell? ⟨b, o + k * 2 + 1, none⟩ = some (.int .i64 f.amt) := cellT HU1.out HB.out
          by_cases hpos : 0 < f.amt
          · have hp1 : decide (0 < f.amt) = true := decide_eq_true hpos
            have HSM : Hid (setM h wr f = ⟨wr, h, f.coin, f.amt⟩) := by show _ = _; unfold setM; rw [if_pos hpos]
            rw [HSM.out] at HMT
            clear hmin hpos HTT HNM HSM
            go_upto_region 12 with (fail)
            have hal : Below w6.heap.size w6 (w6.alloc (.cells #[.string wr, .string h, .string f.coin, .int .i64 f.amt] 40)).drew := (below_nT w6 _).drew
            have HO2 := Lib.hid (own_below HO.out hal)
            have HBB := Lib.hid (HB.out.trans (hal.mono HB.out.size))
            have HSB : Hid (w2.heap.size ≤ (w6.alloc (.cells #[.string wr, .string h, .string f.coin, .int .i64 f.amt] 40)).drew.heap.size) := HBB.out.size
            have HCN : Hid (∀ j u, [Value.string wr, .string h, .string f.coin, .int .i64 f.amt][j]? = some u → (w6.alloc (.cells #[.string wr, .string h, .string f.coin, .int .i64 f.amt] 40)).drew.cell? ((⟨w6.heap.size, 0, none⟩ : Addr).add j) = some u) := lit_cells_at w6 #[.string wr, .string h, .string f.coin, .int .i64 f.amt] 40 w6.heap.size rfl
            have u0' := cellT u0 hal
            have u1' := cellT u1 hal
            clear hal HO HB
            refine wp_region_till (S := fun W => W.cell? ⟨b, o + k * 2, none⟩ = some (.string f.coin) ∧ W.cell? ⟨b, o + k * 2 + 1, none⟩ = some (.int .i64 f.amt)) 15 (by kernel_rfl) ?_
            refine till_take (i := 0) (v := ?_) rfl (by kernel_rfl) (fun _ _ _ h => h) (Or.inl ⟨by rfl, ?_⟩) ⟨u0,u1⟩ ?_
            rotate_left
            · intro W hS
              try dsimp only at hS
              go_split_ands
              go_simp
              try with_reducible rfl
            try simp only [Act.put, List.getElem_toArray, List.getElem_cons_zero, List.getElem_cons_succ, List.setIfInBounds_toArray, List.set_cons_zero, List.set_cons_succ]
            refine till_take (i := 1) (v := ?_) rfl (by kernel_rfl) (fun _ _ _ h => h) (Or.inl ⟨by rfl, ?_⟩) ⟨u0,u1⟩ ?_
            rotate_left
            · intro W hS
              try dsimp only at hS
              go_split_ands
              go_simp
              try with_reducible rfl
            try simp only [Act.put, List.getElem_toArray, List.getElem_cons_zero, List.getElem_cons_succ, List.setIfInBounds_toArray, List.set_cons_zero, List.set_cons_succ]
            refine till_take (i := 2) (v := ?_) rfl (by kernel_rfl) (fun _ _ _ h => h) (Or.inl ⟨by rfl, ?_⟩) ⟨u0,u1⟩ ?_
            rotate_left
            · intro W hS
              try dsimp only at hS
              go_split_ands
              go_simp
              try with_reducible rfl
            try simp only [Act.put, List.getElem_toArray, List.getElem_cons_zero, List.getElem_cons_succ, List.setIfInBounds_toArray, List.set_cons_zero, List.set_cons_succ]
            refine till_take (i := 3) (v := ?_) rfl (by kernel_rfl) (fun _ _ _ h => h) (Or.inl ⟨by rfl, ?_⟩) ⟨u0,u1⟩ ?_
            rotate_left
            · intro W hS
              try dsimp only at hS
              go_split_ands
              go_simp
              try with_reducible rfl
            try simp only [Act.put, List.getElem_toArray, List.getElem_cons_zero, List.getElem_cons_succ, List.setIfInBounds_toArray, List.set_cons_zero, List.set_cons_succ]
            refine till_take (i := 4) (v := ?_) rfl (by kernel_rfl) (fun _ _ _ h => h) (Or.inl ⟨by rfl, ?_⟩) ⟨u0,u1⟩ ?_
            rotate_left
            · intro W hS
              try dsimp only at hS
              go_split_ands
              go_simp
              try with_reducible rfl
            try simp only [Act.put, List.getElem_toArray, List.getElem_cons_zero, List.getElem_cons_succ, List.setIfInBounds_toArray, List.set_cons_zero, List.set_cons_succ]
            refine till_take (i := 5) (v := ?_) rfl (by kernel_rfl) (fun _ _ _ h => h) (Or.inl ⟨by rfl, ?_⟩) ⟨u0,u1⟩ ?_
            rotate_left
            · intro W hS
              try dsimp only at hS
              go_split_ands
              go_simp
              try with_reducible rfl
            try simp only [Act.put, List.getElem_toArray, List.getElem_cons_zero, List.getElem_cons_succ, List.setIfInBounds_toArray, List.set_cons_zero, List.set_cons_succ]
            refine till_take (i := 6) (v := ?_) rfl (by kernel_rfl) (fun _ _ _ h => h) (Or.inl ⟨by rfl, ?_⟩) ⟨u0,u1⟩ ?_
            rotate_left
            · intro W hS
              try dsimp only at hS
              go_split_ands
              go_simp
              try with_reducible rfl
            try simp only [Act.put, List.getElem_toArray, List.getElem_cons_zero, List.getElem_cons_succ, List.setIfInBounds_toArray, List.set_cons_zero, List.set_cons_succ]
            refine till_take (i := 7) (v := ?_) rfl (by kernel_rfl) (fun _ _ _ h => h) (Or.inl ⟨by rfl, ?_⟩) ⟨u0,u1⟩ ?_
            rotate_left
            · intro W hS
              try dsimp only at hS
              go_split_ands
              go_simp
              try with_reducible rfl
            try simp only [Act.put, List.getElem_toArray, List.getElem_cons_zero, List.getElem_cons_succ, List.setIfInBounds_toArray, List.set_cons_zero, List.set_cons_succ]
            refine till_take (i := 8) (v := ?_) rfl (by kernel_rfl) (fun _ _ _ h => h) (Or.inl ⟨by rfl, ?_⟩) ⟨u0,u1⟩ ?_
            rotate_left
            · intro W hS
              try dsimp only at hS
              go_split_ands
              go_simp
              try with_reducible rfl
            try simp only [Act.put, List.getElem_toArray, List.getElem_cons_zero, List.getElem_cons_succ, List.setIfInBounds_toArray, List.set_cons_zero, List.set_cons_succ]
            refine till_take (i := 9) (v := ?_) rfl (by kernel_rfl) (fun _ _ _ h => h) (Or.inl ⟨by rfl, ?_⟩) ⟨u0,u1⟩ ?_
            rotate_left
            · intro W hS
              try dsimp only at hS
              go_split_ands
              go_simp
              try with_reducible rfl
            try simp only [Act.put, List.getElem_toArray, List.getElem_cons_zero, List.getElem_cons_succ, List.setIfInBounds_toArray, List.set_cons_zero, List.set_cons_succ]
            refine till_take (i := 10) (v := ?_) rfl (by kernel_rfl) (fun _ _ _ h => h) (Or.inl ⟨by rfl, ?_⟩) ⟨u0,u1⟩ ?_
            rotate_left
            · intro W hS
              try dsimp only at hS
              go_split_ands
              go_simp
              try with_reducible rfl
            try simp only [Act.put, List.getElem_toArray, List.getElem_cons_zero, List.getElem_cons_succ, List.setIfInBounds_toArray, List.set_cons_zero, List.set_cons_succ]
            refine till_take (i := 11) (v := ?_) rfl (by kernel_rfl) (fun _ _ _ h => h) (Or.inl ⟨by rfl, ?_⟩) ⟨u0,u1⟩ ?_
            rotate_left
            · intro W hS
              try dsimp only at hS
              go_split_ands
              go_simp
              try with_reducible rfl
            try simp only [Act.put, List.getElem_toArray, List.getElem_cons_zero, List.getElem_cons_succ, List.setIfInBounds_toArray, List.set_cons_zero, List.set_cons_succ]
            refine till_take (i := 12) (v := ?_) rfl (by kernel_rfl) (fun _ _ _ h => h) (Or.inl ⟨by rfl, ?_⟩) ⟨u0,u1⟩ ?_
            rotate_left
            · intro W hS
              try dsimp only at hS
              go_split_ands
              go_simp
              try with_reducible rfl
            try simp only [Act.put, List.getElem_toArray, List.getElem_cons_zero, List.getElem_cons_succ, List.setIfInBounds_toArray, List.set_cons_zero, List.set_cons_succ]
            refine till_take (i := 13) (v := ?_) rfl (by kernel_rfl) (fun _ _ _ h => h) (Or.inl ⟨by rfl, ?_⟩) ⟨u0,u1⟩ ?_
            rotate_left
            · intro W hS
              try dsimp only at hS
              go_split_ands
              go_simp
              try with_reducible rfl
            try simp only [Act.put, List.getElem_toArray, List.getElem_cons_zero, List.getElem_cons_succ, List.setIfInBounds_toArray, List.set_cons_zero, List.set_cons_succ]
            refine till_one (i := 14) (by kernel_rfl) rfl (fun K' hK => ?_)
            go_simp
            refine hK _ _ ⟨u0', u1'⟩ ?_
            clear hK K' u0' u1' u0 u1
            generalize (w6.alloc (.cells #[.string wr, .string h, .string f.coin, .int .i64 f.amt] 40)).drew = w7 at *
            obtain ⟨nb, hnb⟩ : ∃ z, z = w6.heap.size := ⟨_, rfl⟩
            rw [← hnb] at HCN ⊢
            clear hnb
            try simp only [Act.put, List.getElem_toArray, List.getElem_cons_zero, List.getElem_cons_succ, List.setIfInBounds_toArray, List.set_cons_zero, List.set_cons_succ]
            refine till_last (by kernel_rfl) rfl (by kernel_rfl) (fun K' hK => ?_)
            refine step_ap infoRM Try.underlying23 rfl (by decide) rfl (.tmp 46) (.tmp 60) rfl rfl HO2.out HSB.out ⟨nb, 0, none⟩ 1 1 [.string wr, .string h, .string f.coin, .int .i64 f.amt] rfl rfl HCN.out (by simp [Value.oneCell']) (by unfold maxLen; omega) (by omega) ?_
            intro v3 w5 o1 g1 hv1
            have HO3 := Lib.hid o1
            have HG3 := Lib.hid g1
            obtain ⟨a', c', rfl⟩ := own_slice HO3.out
            refine hK _ _ ?_
            clear hK K' o1 g1 hv1 HCN
            try simp only [Act.put, List.getElem_toArray, List.getElem_cons_zero, List.getElem_cons_succ, List.setIfInBounds_toArray, List.set_cons_zero, List.set_cons_succ]
            refine any_take (i := 16) (v := ?_) rfl (by kernel_rfl) (fun _ _ _ h => h) (Or.inl ⟨by rfl, ?_⟩) ?_
            rotate_left
            · intro W
              go_simp
              try with_reducible rfl
            try simp only [Act.put, List.getElem_toArray, List.getElem_cons_zero, List.getElem_cons_succ, List.setIfInBounds_toArray, List.set_cons_zero, List.set_cons_succ]
            refine wpAny_done (by kernel_rfl) ?_ _
            go_wp2_with fail
            have HB3 := Lib.hid (HBB.out.grown HG3.out HBB.out.size (fun b hb => (own_lt HO2.out hb).1))
            have HR9 : Hid (w5.ownsRow w2.heap.size 40 4 (.slice a' (k + 1) c') (k + 1) (outM ((out.take (k + 1)).map (setM h wr))) ∧ Below w2.heap.size w2 w5 ∧ ∀ g ∈ out.take (k + 1), g.amt ≠ -9223372036854775808) := by
              refine ⟨?_, HB3.out, HNM2.out⟩
              rw [HMT.out, outM_append, outM_one]
              exact HO3.out
            clear HO3 HO2 HBB HG3 HB3 HMT HSB HNM2
            go_roundw
            case rel => exact ⟨k + 1, a', c', rfl, by go_num, by have := HKT.out; omega, HR9.out⟩
            case measure => simp [intOf]; have := HKT.out; omega
          · have hp1 : decide (0 < f.amt) = false := decide_eq_false hpos
            have HSM : Hid (setM h wr f = ⟨h, wr, f.coin, -f.amt⟩) := by show _ = _; unfold setM; rw [if_neg hpos]
            rw [HSM.out] at HMT
            clear hmin hpos HTT HNM HSM
            have hl2 := below_nT w6 (.cells #[.string h, .string wr, .string f.coin, .int .i64 (-f.amt)] 40)
            have HO2 := Lib.hid (own_below HO.out hl2)
            have HBB := Lib.hid (HB.out.trans (hl2.mono HB.out.size))
            have HSB : Hid (w2.heap.size ≤ (w6.alloc (.cells #[.string h, .string wr, .string f.coin, .int .i64 (-f.amt)] 40)).heap.size) := HBB.out.size
            clear hl2 HO HB
            go_wp2_with (at_builtin; refine ap_row infoRM Try.underlying23 rfl (by decide) rfl (.tmp 62) (.tmp 72) rfl rfl HO2.out HSB.out ⟨w6.heap.size, 0, none⟩ 1 1 [.string h, .string wr, .string f.coin, .int .i64 (-f.amt)] rfl rfl (lit_cells_at w6 #[.string h, .string wr, .string f.coin, .int .i64 (-f.amt)] 40 _ rfl) (by simp [Value.oneCell']) (by unfold maxLen; omega) (by omega) ?_; intro v3 w5 o1 g1 hv1; have HO3 := Lib.hid o1; have HG3 := Lib.hid g1; clear o1 g1 hv1)
            obtain ⟨a', c', rfl⟩ := own_slice HO3.out
            have HB3 := Lib.hid (HBB.out.grown HG3.out HBB.out.size (fun b hb => (own_lt HO2.out hb).1))
            have HR9 : Hid (w5.ownsRow w2.heap.size 40 4 (.slice a' (k + 1) c') (k + 1) (outM ((out.take (k + 1)).map (setM h wr))) ∧ Below w2.heap.size w2 w5 ∧ ∀ g ∈ out.take (k + 1), g.amt ≠ -9223372036854775808) := by
              refine ⟨?_, HB3.out, HNM2.out⟩
              rw [HMT.out, outM_append, outM_one]
              exact HO3.out
            clear HO3 HO2 HBB HG3 HB3 HMT HSB HNM2
            go_roundw
            case rel => exact ⟨k + 1, a', c', rfl, by go_num, by have := HKT.out; omega, HR9.out⟩
            case measure => simp [intOf]; have := HKT.out; omega
      · have hkt' : ¬ (k : Int) < (out.length : Int) := by omega
        obtain rfl : k = out.length := by omega
        rw [List.take_of_length_le (Nat.le_refl _)] at HR
        have HFI : Hid (∃ a c, Value.slice oa out.length oc = .slice a (out.map (setM h wr)).length c ∧ SlR mvK w3 [] (out.map (setM h wr)) a (out.map (setM h wr)).length c) := outM_any (by rw [List.length_map]; exact HR.out.1) HR.out.2.1 (fun x hx => by
          obtain ⟨f, hf, rfl⟩ := List.mem_map.1 hx
          have h1 := fl_ok HSO.out f hf
          have h2 : I64 f.amt := h1.amt
          have h3 := HR.out.2.2 f hf
          unfold I64 at h2
          unfold setM
          split
          · exact ⟨HSZ.out.2, HSZ.out.1, h1.coin, h1.amt⟩
          · exact ⟨HSZ.out.1, HSZ.out.2, h1.coin, by show I64 (-f.amt); unfold I64; omega⟩)
        have HV : Hid (SetV fl h wr (out.map (setM h wr)) true) := ⟨out, true, HTV.out, .inr ⟨rfl, rfl, HR.out.2.2, rfl⟩⟩
        have HLL : Hid ((out.map (setM h wr)).length = out.length) := List.length_map ..
        have HBZ := Lib.hid HR.out.2.1
        clear HR hkt hk
        go_wp2_with fail
        go_ret2
        obtain ⟨a', c', e, hs⟩ := HFI.out
        exact ⟨⟨_, a', c', true, by rw [e]; rfl, hs, HV.out, by rw [HLL.out]; exact HOL.out⟩, HB2.out.trans (HBZ.out.mono HB2.out.size)⟩
end Go.Proofs.Ytgbiimoednmlgaa

/- LedgerSettles, walked. -/
namespace Go.Proofs.Ytgbiimoednmlgaa
set_option linter.unusedVariables false
set_option linter.unusedSimpArgs false
open Go.RowKit Go.ChangeShapes
set_option maxRecDepth 100000 in
set_option maxHeartbeats 8000000 in
theorem lawSettles_any (fl : List Flw) (a : Option Addr) (len cap : Nat) (h wr : ByteArray) (w : World) (hS : SlR flK w [] fl a len cap) (hh : h.size ≤ maxLen) (hw : wr.size ≤ maxLen) :
    Calls Try.prog 7 #[.slice a len cap, .string h, .string wr] w fun x w' => x = .returned (.bool true) ∧ Below w.heap.size w w' := by
  have HS := Lib.hid hS
  have HL := Lib.hid hS.facts.1
  have HFO := Lib.hid (fl_ok hS)
  have HSZ : Hid (h.size ≤ maxLen ∧ wr.size ≤ maxLen) := ⟨hh, hw⟩
  have HB := Lib.hid (Below.refl w.heap.size w)
  clear hS hh hw
  by_cases h1 : (60 : Int) < (len : Int)
  · have d1 : decide ((60 : Int) < (len : Int)) = true := decide_eq_true h1
    have d2 : decide (60 < len) = true := decide_eq_true (by omega)
    clear h1
    go_enter Try.func7, Try.ntmps7
    go_wp2_with fail
    go_at_call 9
    (with_reducible refine (awake_any _).mono ?_)
    rintro y wz ⟨rfl, bz⟩
    have HZ := Lib.hid (HB.out.trans (bz.mono HB.out.size))
    clear bz
    go_wp2_with fail
    go_ret
    exact ⟨rfl, HZ.out⟩
  · have d1 : decide ((60 : Int) < (len : Int)) = false := decide_eq_false h1
    have d2 : decide (60 < len) = false := decide_eq_false (by omega)
    have HLN : Hid (len ≤ 60) := by show _ ≤ _; omega
    by_cases h2 : (100 : Int) < (h.size : Int)
    · have d3 : decide ((100 : Int) < (h.size : Int)) = true := decide_eq_true h2
      have d4 : decide (100 < h.size) = true := decide_eq_true (by omega)
      clear h1 h2
      go_enter Try.func7, Try.ntmps7
      go_wp2_with fail
      go_at_call 9
      (with_reducible refine (awake_any _).mono ?_)
      rintro y wz ⟨rfl, bz⟩
      have HZ := Lib.hid (HB.out.trans (bz.mono HB.out.size))
      clear bz
      go_wp2_with fail
      go_ret
      exact ⟨rfl, HZ.out⟩
    · have d3 : decide ((100 : Int) < (h.size : Int)) = false := decide_eq_false h2
      have d4 : decide (100 < h.size) = false := decide_eq_false (by omega)
      by_cases h3 : (100 : Int) < (wr.size : Int)
      · have d5 : decide ((100 : Int) < (wr.size : Int)) = true := decide_eq_true h3
        have d6 : decide (100 < wr.size) = true := decide_eq_true (by omega)
        clear h1 h2 h3
        go_enter Try.func7, Try.ntmps7
        go_wp2_with fail
        go_at_call 9
        (with_reducible refine (awake_any _).mono ?_)
        rintro y wz ⟨rfl, bz⟩
        have HZ := Lib.hid (HB.out.trans (bz.mono HB.out.size))
        clear bz
        go_wp2_with fail
        go_ret
        exact ⟨rfl, HZ.out⟩
      · have d5 : decide ((100 : Int) < (wr.size : Int)) = false := decide_eq_false h3
        have d6 : decide (100 < wr.size) = false := decide_eq_false (by omega)
        clear h1 h2 h3
        go_enter Try.func7, Try.ntmps7
        go_wp2_with fail
        clear d1 d2 d3 d4 d5 d6
        go_loopw [7, 8] (fun v i wr' => ∃ (k : Nat) (oa : Option Addr) (oc : Nat), v = .slice oa k oc ∧ i = .int .i64 (k : Nat) ∧ k ≤ len ∧ Hid (wr'.ownsRow w.heap.size 64 2 (.slice oa k oc) k (outF (fl.take k)) ∧ Below w.heap.size w wr')) (fun _ i _ => len - (intOf i).toNat)
        case atStart => exact ⟨0, none, 0, rfl, rfl, Nat.zero_le _, by rw [List.take_zero]; exact World.ownsRow_nil _ _ _ _, HB.out⟩
        case round =>
          rename World => w2
          obtain ⟨k, oa, oc, rfl, rfl, hk, HR⟩ := hrel
          by_cases hlt : k < len
          · have hlt' : (k : Int) < (len : Int) := by omega
            have i0 : (0 : Int) ≤ (k : Int) := by omega
            have i1 : (k : Int) ≤ 60 := by have := HLN.out; omega
            obtain ⟨b, o, f, ha, hf, -, u0, u1⟩ := fl_at (HS.out.kept (Kept.of_below HR.out.2 [])) k hlt
            have HA := Lib.hid ha
            subst ha
            have HX := Lib.hid (take_snoc hf)
            have hal := below_nT w2 (.cells #[.string f.coin, .int .i64 f.amt] 64)
            have HO2 := Lib.hid (own_below HR.out.1 hal)
            have HB2 := Lib.hid (HR.out.2.trans (hal.mono HR.out.2.size))
            have HSB : Hid (w.heap.size ≤ (w2.alloc (.cells #[.string f.coin, .int .i64 f.amt] 64)).heap.size) := HB2.out.size
            have HKL := Lib.hid hlt
            clear hal hf HR hlt
            go_wp2_with (at_builtin; refine ap_row infoLF Try.underlying62 rfl (by decide) rfl (.tmp 33) (.tmp 38) rfl rfl HO2.out HSB.out ⟨w2.heap.size, 0, none⟩ 1 1 [.string f.coin, .int .i64 f.amt] rfl rfl (lit_cells_at w2 #[.string f.coin, .int .i64 f.amt] 64 _ rfl) (by simp [Value.oneCell']) (by unfold maxLen; omega) (by omega) ?_; intro v3 w3 o1 g1 hv1; have HO3 := Lib.hid o1; have HG3 := Lib.hid g1; clear o1 g1 hv1)
            have HB3 := Lib.hid (HB2.out.grown HG3.out HB2.out.size (fun b hb => (own_lt HO2.out hb).1))
            obtain ⟨a', c', rfl⟩ := own_slice HO3.out
            have HR3 : Hid (w3.ownsRow w.heap.size 64 2 (.slice a' (k + 1) c') (k + 1) (outF (fl.take (k + 1))) ∧ Below w.heap.size w w3) := by
              refine ⟨?_, HB3.out⟩
              rw [HX.out, outF_append, outF_one]
              exact HO3.out
            clear HO3 HO2 HB2 HG3 HB3 HX HSB
            go_roundw
            case rel => exact ⟨k + 1, a', c', rfl, by go_num, by have := HKL.out; omega, HR3.out⟩
            case measure => simp [intOf]; have := HKL.out; omega
          · have hlt' : ¬ (k : Int) < (len : Int) := by omega
            obtain rfl : k = len := by omega
            have HEND : Hid (∃ a c, Value.slice oa k oc = .slice a k c ∧ SlR flK w2 [] fl a k c) := by
              have ho := HR.out.1
              have hke : fl.take k = fl := List.take_of_length_le (by rw [HL.out]; omega)
              rw [hke] at ho
              have hkl := HL.out
              subst hkl
              exact outF_any ho HR.out.2 HFO.out
            replace HB := Lib.hid HR.out.2
            obtain ⟨pa, pc, e, hs⟩ := HEND.out
            injection e with e1 _ e3
            subst e1; subst e3
            have HS2 := Lib.hid hs
            have HR2 := Lib.hid (HS.out.kept (Kept.of_below HB.out []))
            clear HR hlt hk hs HEND HS
            have HNH := Lib.hid (fun W => rnamed_any h W (by have := HSZ.out.1; unfold maxLen at this; omega))
            have HNW := Lib.hid (fun W => rnamed_any wr W (by have := HSZ.out.2; unfold maxLen at this; omega))
            cases hnb : namB h wr with
            | false =>
              have HQ := Lib.hid (lsettle_bad fl oa k oc h wr w2 HSZ.out.1 HSZ.out.2 hnb)
              have hs := same_b h wr
              unfold namB at hnb
              cases q1 : nmd h with
              | false =>
                rw [q1] at HNH
                clear q1 hnb hs
                go_wp2_with fail
                go_at_call 30
                (with_reducible refine HQ.out.mono ?_)
                rintro x w3 ⟨rfl, hb⟩
                have HX := Lib.hid hb
                replace HB := Lib.hid (HB.out.trans (hb.mono HB.out.size))
                clear hb HQ
                go_wp2_with fail
                go_at_call 31
                (with_reducible refine (HNH.out _).mono ?_)
                rintro x wn ⟨rfl, rfl⟩
                go_wp2_with fail
                go_at_call 9
                (with_reducible refine (awake_any _).mono ?_)
                rintro y wz ⟨rfl, bz⟩
                have HZ := Lib.hid (HB.out.trans (bz.mono HB.out.size))
                clear bz
                go_wp2_with fail
                go_ret
                exact ⟨rfl, HZ.out⟩
              | true =>
                rw [q1] at HNH hnb
                cases q2 : nmd wr with
                | false =>
                  rw [q2] at HNW
                  clear q1 q2 hnb hs
                  go_wp2_with fail
                  go_at_call 30
                  (with_reducible refine HQ.out.mono ?_)
                  rintro x w3 ⟨rfl, hb⟩
                  have HX := Lib.hid hb
                  replace HB := Lib.hid (HB.out.trans (hb.mono HB.out.size))
                  clear hb HQ
                  go_wp2_with fail
                  go_at_call 31
                  (with_reducible refine (HNH.out _).mono ?_)
                  rintro x wn ⟨rfl, rfl⟩
                  go_wp2_with fail
                  go_at_call 31
                  (with_reducible refine (HNW.out _).mono ?_)
                  rintro x wn ⟨rfl, rfl⟩
                  go_wp2_with fail
                  go_at_call 9
                  (with_reducible refine (awake_any _).mono ?_)
                  rintro y wz ⟨rfl, bz⟩
                  have HZ := Lib.hid (HB.out.trans (bz.mono HB.out.size))
                  clear bz
                  go_wp2_with fail
                  go_ret
                  exact ⟨rfl, HZ.out⟩
                | true =>
                  rw [q2] at HNW hnb
                  have hd : decide (h.data.toList = wr.data.toList) = true := by simpa using hnb
                  rw [hd] at hs
                  clear q1 q2 hnb hd
                  go_wp2_with fail
                  go_at_call 30
                  (with_reducible refine HQ.out.mono ?_)
                  rintro x w3 ⟨rfl, hb⟩
                  have HX := Lib.hid hb
                  replace HB := Lib.hid (HB.out.trans (hb.mono HB.out.size))
                  clear hb HQ
                  go_wp2_with fail
                  go_at_call 31
                  (with_reducible refine (HNH.out _).mono ?_)
                  rintro x wn ⟨rfl, rfl⟩
                  go_wp2_with fail
                  go_at_call 31
                  (with_reducible refine (HNW.out _).mono ?_)
                  rintro x wn ⟨rfl, rfl⟩
                  go_wp2_with fail
                  go_at_call 9
                  (with_reducible refine (awake_any _).mono ?_)
                  rintro y wz ⟨rfl, bz⟩
                  have HZ := Lib.hid (HB.out.trans (bz.mono HB.out.size))
                  clear bz
                  go_wp2_with fail
                  go_ret
                  exact ⟨rfl, HZ.out⟩
            | true =>
              have HQ := Lib.hid (lsettle_any fl oa k oc h wr w2 HS2.out (by have := HLN.out; omega) HSZ.out.1 HSZ.out.2 hnb)
              have hs := same_b h wr
              unfold namB at hnb
              rw [Bool.and_eq_true, Bool.and_eq_true] at hnb
              obtain ⟨⟨q1, q2⟩, q3⟩ := hnb
              rw [q1] at HNH
              rw [q2] at HNW
              have hd : decide (h.data.toList = wr.data.toList) = false := by simpa using q3
              rw [hd] at hs
              clear q1 q2 q3 hd
              go_wp2_with fail
              go_at_call 30
              (with_reducible refine HQ.out.mono ?_)
              rintro x w3 ⟨⟨ms,ma,mc,tb,rfl,hms,hsv,hml⟩, hb⟩
              have HX := Lib.hid hb
              replace HB := Lib.hid (HB.out.trans (hb.mono HB.out.size))
              clear hb HQ
              have HMS := Lib.hid hms
              have HSV := Lib.hid hsv
              have HML : Hid (ms.length ≤ 60) := by have := HLN.out; have := HL.out; show _ ≤ _; omega
              clear hms hsv hml
              cases tb with
              | false =>
                go_wp2_with fail
                go_at_call 31
                (with_reducible refine (HNH.out _).mono ?_)
                rintro x wn ⟨rfl, rfl⟩
                go_wp2_with fail
                go_at_call 31
                (with_reducible refine (HNW.out _).mono ?_)
                rintro x wn ⟨rfl, rfl⟩
                have HQ := Lib.hid (rsettle_any fl a k cap h wr w3 (HR2.out.kept (Kept.of_below HX.out [])) (by have := HLN.out; omega) HSZ.out.1 HSZ.out.2)
                clear HNH HNW
                go_wp2_with fail
                go_at_call 32
                (with_reducible refine HQ.out.mono ?_)
                rintro x w4 ⟨⟨ms2,na,nc,tb2,rfl,hns,hsv2,-⟩, hb⟩
                obtain ⟨hbb, hmm⟩ := HSV.out.uniq hsv2
                subst hbb
                subst hmm
                have HNS := Lib.hid hns
                replace HMS := Lib.hid (HMS.out.kept (Kept.of_below hb []))
                replace HB := Lib.hid (HB.out.trans (hb.mono HB.out.size))
                clear hns hsv2 hb HQ HR2 HS2 hs
                have hm0 : ms = [] := by
                  obtain ⟨o1, t1, -, ⟨-, h5, -⟩ | ⟨h5, -⟩⟩ := HSV.out
                  · exact h5
                  · cases h5
                subst hm0
                clear HSV HMS HNS
                go_wp2_with fail
                go_at_call 9
                (with_reducible refine (awake_any _).mono ?_)
                rintro y wz ⟨rfl, bz⟩
                have HZ := Lib.hid (HB.out.trans (bz.mono HB.out.size))
                clear bz
                go_wp2_with fail
                go_ret
                exact ⟨rfl, HZ.out⟩
              | true =>
                go_wp2_with fail
                go_at_call 31
                (with_reducible refine (HNH.out _).mono ?_)
                rintro x wn ⟨rfl, rfl⟩
                go_wp2_with fail
                go_at_call 31
                (with_reducible refine (HNW.out _).mono ?_)
                rintro x wn ⟨rfl, rfl⟩
                have HQ := Lib.hid (rsettle_any fl a k cap h wr w3 (HR2.out.kept (Kept.of_below HX.out [])) (by have := HLN.out; omega) HSZ.out.1 HSZ.out.2)
                clear HNH HNW
                go_wp2_with fail
                go_at_call 32
                (with_reducible refine HQ.out.mono ?_)
                rintro x w4 ⟨⟨ms2,na,nc,tb2,rfl,hns,hsv2,-⟩, hb⟩
                obtain ⟨hbb, hmm⟩ := HSV.out.uniq hsv2
                subst hbb
                subst hmm
                have HNS := Lib.hid hns
                replace HMS := Lib.hid (HMS.out.kept (Kept.of_below hb []))
                replace HB := Lib.hid (HB.out.trans (hb.mono HB.out.size))
                clear hns hsv2 hb HQ HR2 HS2 hs
                have HQ := Lib.hid (back_any ms ma ms.length mc w4 HMS.out (by have := HML.out; omega))
                go_wp2_with fail
                go_at_call 16
                (with_reducible refine HQ.out.mono ?_)
                rintro x w5 ⟨⟨i6,j6,rfl,hs6⟩, hb⟩
                have HQ2 := Lib.hid (sameM_any ms i6 na ms.length j6 nc w5 hs6 (HNS.out.kept (Kept.of_below hb [])) (by have := HML.out; omega))
                replace HB := Lib.hid (HB.out.trans (hb.mono HB.out.size))
                clear hs6 hb HQ HMS HNS
                go_wp2_with fail
                go_at_call 15
                (with_reducible refine HQ2.out.mono ?_)
                rintro x w6 ⟨rfl, hb⟩
                replace HB := Lib.hid (HB.out.trans (hb.mono HB.out.size))
                clear hb HQ2
                go_wp2_with fail
                go_at_call 9
                (with_reducible refine (awake_any _).mono ?_)
                rintro y wz ⟨rfl, bz⟩
                have HZ := Lib.hid (HB.out.trans (bz.mono HB.out.size))
                clear bz
                go_wp2_with fail
                go_ret
                exact ⟨rfl, HZ.out⟩
theorem opens_fl : Opens Try.prog 65 flK := by
  intro H enc W fuel cs x h
  obtain ⟨hl, hf⟩ := opens_struct Try.underlying65 (by kernel_rfl) (by kernel_rfl) h
  obtain ⟨v0, n0, y0, c0, t0⟩ := hf 0 _ rfl
  obtain ⟨v1, n1, y1, c1, t1⟩ := hf 1 _ rfl
  obtain ⟨a0, e0, _, w0⟩ := DataW.trod_string Try.underlying9 t0
  obtain ⟨a1, e1, _, w1⟩ := DataW.trod_int (k := .i64) Try.underlying2 t1
  injection e0 with e0; injection e1 with e1
  subst e0; subst e1
  refine ⟨⟨a0, a1⟩, ?_, ⟨w0, i64_of w1⟩⟩
  match cs, hl with
  | [p, q], _ => simp at c0 c1; subst c0; subst c1; rfl
theorem flows_of {H : Type} {enc : TypeId × Value → H} {W : World} {a : Option Addr} {len cap : Nat} {x : DataW H × List MemPlace} (k : ∃ fuel, DataW.trod enc Try.prog W 0 (fun _ => true) true fuel 61 (Value.cells (.slice a len cap)).toList = some x) : ∃ l, SlR flK W [] l a len cap := by
  obtain ⟨fuel, hf⟩ := k
  obtain ⟨a', len', cap', l, e, hS⟩ := opens_slice (K := flK) Try.underlying61 (by kernel_rfl) opens_fl hf
  have e' : (Value.slice a len cap) = .slice a' len' cap' := by
    have := List.head_eq_of_cons_eq e
    exact this
  injection e' with h1 h2 h3
  subst h1; subst h2; subst h3
  exact ⟨l, hS⟩
end Go.Proofs.Ytgbiimoednmlgaa
