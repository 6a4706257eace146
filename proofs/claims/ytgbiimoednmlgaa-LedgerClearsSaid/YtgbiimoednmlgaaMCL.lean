/- A part of the proof: LcH, one behind another. -/
import Derived.Test.YtgbiimoednmlgaaMCA
import Derived.Test.YtgbiimoednmlgaaMCB
import Derived.Test.YtgbiimoednmlgaaMCC
import Derived.Test.YtgbiimoednmlgaaMCD
import Derived.Test.YtgbiimoednmlgaaMCE
import Derived.Test.YtgbiimoednmlgaaMCF
import Derived.Test.YtgbiimoednmlgaaMCG
import Derived.Test.YtgbiimoednmlgaaMCH
import Derived.Test.YtgbiimoednmlgaaMCI
import Derived.Test.YtgbiimoednmlgaaMCJ
import Derived.Test.YtgbiimoednmlgaaMCK
/- Clear, walked. -/
namespace Go.Proofs.Ytgbiimoednmlgaa
set_option linter.unusedVariables false
set_option linter.unusedSimpArgs false
open Go.RowKit
/-- num.Neg. -/
def negN (n : Int) : Int := if n = -9223372036854775808 then 0 else -n
def negB (n : Int) : Bool := !decide (n = -9223372036854775808)
set_option maxRecDepth 100000 in
set_option maxHeartbeats 1000000 in
theorem neg_any (n : Int) (h : I64 n) (w : World) : Calls Try.prog 56 #[.int .i64 n] w fun e w' => e = .returned (.tuple #[.int .i64 (negN n), .bool (negB n)]) ∧ w = w' := by
  unfold I64 at h
  by_cases h0 : n = -9223372036854775808
  · have e1 : negN n = 0 := by unfold negN; rw [if_pos h0]
    have e2 : negB n = false := by unfold negB; rw [decide_eq_true h0]; rfl
    have h1 : (n == -9223372036854775808) = true := by simpa using h0
    rw [e1, e2]
    clear e1 e2 h0
    go_enter Try.func56, Try.ntmps56
    go_wp2_with fail
    go_ret2
    exact ⟨rfl, rfl⟩
  · have e1 : negN n = -n := by unfold negN; rw [if_neg h0]
    have e2 : negB n = true := by unfold negB; rw [decide_eq_false h0]; rfl
    have h1 : (n == -9223372036854775808) = false := by simpa using h0
    have h2 : IntKind.i64.wrap (-n) = -n := IntWalk.i64_in _ (by omega)
    rw [e1, e2]
    clear e1 e2
    go_enter Try.func56, Try.ntmps56
    go_wp2_with fail
    go_ret2
    exact ⟨rfl, rfl⟩
def lenV (v : Value) : Nat := match v with | .slice _ n _ => n | _ => 0
/-- Where Clear stands, in memory. -/
structure ClMem (c : ByteArray) (w wr : World) (bx : Nat) (left : List Acct) (out : List Mv) (vl vo : Value) : Prop where
  bel : Below w.heap.size w wr
  env : Mem.Blk wr bx 9 #[.string c]
  rowL : wr.ownsRow w.heap.size 51 3 vl left.length (outR left)
  rowO : wr.ownsRow w.heap.size 72 4 vo out.length (outM out)
theorem ClMem.below {c : ByteArray} {w wr w' : World} {bx : Nat} {left : List Acct} {out : List Mv} {vl vo : Value} (h : ClMem c w wr bx left out vl vo) (b : Below wr.heap.size wr w') : ClMem c w w' bx left out vl vo :=
  ⟨h.bel.trans (b.mono h.bel.size), h.env.below b, own_below h.rowL b, own_below h.rowO b⟩
theorem outR_amt (A B : List Acct) (x : Acct) (v : Int) : (outR (A ++ x :: B)).set (A.length * 3 + 2) (.int .i64 v) = outR (A ++ ⟨x.party, x.coin, v⟩ :: B) := by
  have e : ∀ z, outR (A ++ z :: B) = outR A ++ (acctC z ++ outR B) := fun z => by rw [outR_append, show z :: B = [z] ++ B from rfl, outR_append, outR_one]
  have hl := outR_len A
  rw [e, e, List.set_append_right _ _ (by omega), hl, Nat.add_sub_cancel_left]
  rfl
/-- While the amounts are turned. -/
structure InMem (c : ByteArray) (w wr : World) (bx br : Nat) (rich poor : Acct) (xs : List Acct) (out : List Mv) (vl vo : Value) : Prop where
  mem : ClMem c w wr bx xs out vl vo
  rb : Mem.Blk wr br 51 #[.string rich.party, .string rich.coin, .int .i64 rich.amt]
  pb : Mem.Blk wr (br + 1) 51 #[.string poor.party, .string poor.coin, .int .i64 poor.amt]
  far : ∀ g, vl.ownBlock = some g → g < br
theorem InMem.set {c : ByteArray} {w wr : World} {bx br g n cap : Nat} {rich poor : Acct} {A B : List Acct} {x : Acct} {out : List Mv} {vo : Value} (h : InMem c w wr bx br rich poor (A ++ x :: B) out (.slice (some ⟨g, 0, none⟩) n cap) vo) {i : Nat} (hi : A.length = i) (v : Int) : InMem c w (wr.setCell ⟨g, i * 3 + 2, none⟩ (.int .i64 v)) bx br rich poor (A ++ ⟨x.party, x.coin, v⟩ :: B) out (.slice (some ⟨g, 0, none⟩) n cap) vo := by
  have hg := h.far g rfl
  have hn : n = (A ++ x :: B).length := by
    rcases h.mem.rowL.2 with ⟨h1, h2⟩ | ⟨a, cap', cur, e, _⟩
    · cases h1
    · injection e
  have hl : (A ++ x :: B).length = (A ++ ⟨x.party, x.coin, v⟩ :: B : List Acct).length := by simp
  subst hn
  have hs := h.mem.rowL.stored (i * 3 + 2) (.int .i64 v)
  have hbx : g ≠ bx := fun e => blkRow h.mem.env h.mem.rowL (by decide) (by rw [← e]; rfl)
  refine ⟨⟨h.mem.bel.setCell (p := ⟨g, i * 3 + 2, none⟩) (own_lt h.mem.rowL rfl).1 _, h.mem.env.far (fun e => hbx e.symm) _, ?_, own_grown (u := .slice (some ⟨g, 0, none⟩) (A ++ x :: B).length cap) h.mem.rowO hs.2 (fun k hk e => row_ne h.mem.rowO h.mem.rowL (by decide) hk e)⟩, h.rb.far (by show br ≠ g; omega) _, h.pb.far (by show br + 1 ≠ g; omega) _, h.far⟩
  rw [← hl, ← outR_amt A B x v, hi]
  exact hs.1
theorem ClMem.own {c : ByteArray} {w wr : World} {bx : Nat} {left : List Acct} {out : List Mv} {vl vo : Value} (h : ClMem c w wr bx left out vl vo) : vl.ownBlock ≠ some bx := fun e => blkRow h.env h.rowL (by decide) e
theorem blk_grown {w w' : World} {g : Nat} {t : TypeId} {cs : Array Value} {row : Option Nat} (h : Mem.Blk w g t cs) (k : w.grownBy w' row) (hne : row ≠ some g) : Mem.Blk w' g t cs := by
  have hb := k.block g h.lt (fun e => hne e.symm)
  unfold Mem.Blk at h ⊢
  rw [hb]; exact h
set_option maxRecDepth 100000 in
set_option maxHeartbeats 8000000 in
theorem clear_any (l : List Acct) (a : Option Addr) (len cap : Nat) (c : ByteArray) (w : World) (h : SlR acctK w [] l a len cap) (hlen : len ≤ 1000) (hc : c.size ≤ maxLen) :
    Calls Try.prog 24 #[.slice a len cap, .string c] w fun x w' => (∃ out a' c', x = .returned (.slice a' out.length c') ∧ SlR mvK w' [] out a' out.length c' ∧ (evenA l = false → out = []) ∧ (evenA l = true → Clr c (coinF c l) out)) ∧ Below w.heap.size w w' := by
  have HS := Lib.hid h
  have HL := Lib.hid h.facts.1
  have HN := Lib.hid hlen
  have HC := Lib.hid hc
  have HOK := Lib.hid (acct_ok h)
  clear h hlen hc
  have hb1 := below_newL w (.cells #[.string c] 9)
  have BX := Lib.hid (Mem.Blk.new w 9 #[.string c])
  have HB := Lib.hid hb1
  have HEV := Lib.hid (even_any l a len cap _ (HS.out.kept (Kept.of_below hb1 [])) (by have := HN.out; omega))
  clear hb1
  go_enter Try.func24, Try.ntmps24
  go_upto_region 1 with (fail)
  generalize (w.alloc (.cells #[.string c] 9)) = w1 at *
  obtain ⟨bx, hbx⟩ : ∃ b, b = w.heap.size := ⟨_, rfl⟩
  rw [← hbx] at BX ⊢
  clear hbx
  obtain ⟨R, hR⟩ : ∃ R, R = evenA l := ⟨_, rfl⟩
  rw [← hR] at HEV
  have HR := Lib.hid hR
  clear hR
  go_wp2_with fail
  go_at_call 21
  (with_reducible refine HEV.out.mono ?_)
  rintro x w2 ⟨rfl, b2⟩
  have HB2 := Lib.hid (HB.out.trans (b2.mono HB.out.size))
  have BX2 := Lib.hid (BX.out.below b2)
  clear HEV b2 HB BX
  cases R with
  | false =>
    go_wp2_with fail
    go_ret
    exact ⟨⟨[], none, 0, rfl, SlR.nil _ _ _, fun _ => rfl, fun h => (by rw [← HR.out] at h; cases h)⟩, HB2.out⟩
  | true =>
    have HCO := Lib.hid (coinF_ok (c := c) HR.out.symm HOK.out)
    have HCL := Lib.hid (cloneA_any l a len cap w2 (HS.out.kept (Kept.of_below HB2.out [])) (by have := HN.out; omega))
    go_wp2_with fail
    go_at_call 50
    (with_reducible refine HCL.out.mono ?_)
    rintro x w3 ⟨⟨a3, c3, rfl, hr3⟩, b3⟩
    have HB3 := Lib.hid (HB2.out.trans (b3.mono HB2.out.size))
    have BX3 := Lib.hid (BX2.out.below b3)
    have hr3' := hr3.mono HB2.out.size
    have hne : (Value.slice a3 len c3).ownBlock ≠ some bx := fun e => blkRow BX3.out hr3' (by decide) e
    have HDL := Lib.hid (delfC_any l w.heap.size a3 len c3 bx c w3 hr3' HL.out (by have := HN.out; omega) (BX3.out.cell 0) hne)
    have HNE := Lib.hid hne
    have HLT := Lib.hid (fun k e => (own_lt hr3' (g := k) e).1)
    rw [show (List.filter (fun x => !pC c x) l) = coinF c l from rfl] at HDL
    clear HCL b3 hr3 hr3' hne HB2 BX2
    go_wp2_with fail
    go_at_call 49
    (with_reducible refine HDL.out.mono ?_)
    rintro x w4 ⟨⟨a4, c4, rfl, hr4⟩, g4⟩
    have HM4 : Hid (ClMem c w w4 bx (coinF c l) [] (.slice a4 (coinF c l).length c4) (.slice none 0 0)) := ⟨HB3.out.grown g4 HB3.out.size (fun k e => HLT.out k e), blk_grown BX3.out g4 HNE.out, hr4, World.ownsRow_nil _ _ _ _⟩
    have HS4 := Lib.hid (ClSt.start HCO.out.1 HCO.out.2)
    have HL0 : Hid ((coinF c l).length ≤ 1000) := by
      have : (coinF c l).length ≤ l.length := List.length_filter_le ..
      have h2 := HL.out
      have h3 := HN.out
      show _ ≤ _
      omega
    clear hr4 g4 HDL HNE HLT HB3 BX3 HCO
    go_wp2_with fail
    go_loopw [5, 7] (fun vl vo wr => ∃ (left : List Acct) (out : List Mv) (la : Option Addr) (lc : Nat) (oa : Option Addr) (oc : Nat), vl = .slice la left.length lc ∧ vo = .slice oa out.length oc ∧ Hid (ClMem c w wr bx left out (.slice la left.length lc) (.slice oa out.length oc)) ∧ Hid (ClSt c (coinF c l) left out)) (fun vl _ _ => lenV vl)
    case atStart => exact ⟨coinF c l, [], a4, c4, none, 0, rfl, rfl, HM4.out, HS4.out⟩
    case round =>
      clear HM4 HS4
      obtain ⟨left, out, la, lc, oa, oc, rfl, rfl, HM, HT⟩ := hrel
      by_cases h0 : 0 < left.length
      · have h0' : (0 : Int) < (left.length : Int) := by omega
        have HLN : Hid (left.length ≤ 1000 ∧ out.length ≤ 1000) := by
          have h1 := HT.out.len
          have h2 := HL0.out
          exact ⟨by omega, by omega⟩
        have HSL : Hid (SlR acctK wr [] left la left.length lc) := by
          obtain ⟨a', c', e, hs⟩ := outR_any HM.out.rowL HM.out.bel HT.out.lf.ok
          injection e with e1 _ e3
          subst e1; subst e3
          exact hs
        have HMX := Lib.hid (maxA_any left la left.length lc wr HSL.out (by have := HLN.out; omega) h0)
        have HMN := Lib.hid (fun W (b : Below wr.heap.size wr W) => minA_any left la left.length lc W (HSL.out.kept (Kept.of_below b [])) (by have := HLN.out; omega) h0)
        have H0 := Lib.hid h0
        clear h0 HSL
        go_wp2_with fail
        go_at_call 54
        (with_reducible refine HMX.out.mono ?_)
        rintro x w5 ⟨⟨rich, rfl, hrich⟩, b5⟩
        have HMN5 := Lib.hid (HMN.out w5 b5)
        have HM5 := Lib.hid (HM.out.below b5)
        have HRI := Lib.hid hrich
        clear HMX HMN b5 hrich HM
        go_wp2_with fail
        go_at_call 55
        (with_reducible refine HMN5.out.mono ?_)
        rintro x w6 ⟨⟨poor, rfl, hpoor⟩, b6⟩
        have HM6 := Lib.hid (HM5.out.below b6)
        have HPO := Lib.hid hpoor
        clear HMN5 b6 hpoor HM5
        go_upto_region 8 with (fail)
        have hb1 := below_newL w6 (.cells #[.string rich.party, .string rich.coin, .int .i64 rich.amt] 51)
        have hb2 := below_newL (w6.alloc (.cells #[.string rich.party, .string rich.coin, .int .i64 rich.amt] 51)) (.cells #[.string poor.party, .string poor.coin, .int .i64 poor.amt] 51)
        have BR := Lib.hid ((Mem.Blk.new w6 51 #[.string rich.party, .string rich.coin, .int .i64 rich.amt]).below hb2)
        have BP := Lib.hid (Mem.Blk.new (w6.alloc (.cells #[.string rich.party, .string rich.coin, .int .i64 rich.amt] 51)) 51 #[.string poor.party, .string poor.coin, .int .i64 poor.amt])
        have HM8 := Lib.hid ((HM6.out.below hb1).below hb2)
        have ez : (w6.alloc (.cells #[.string rich.party, .string rich.coin, .int .i64 rich.amt] 51)).heap.size = w6.heap.size + 1 := by simp
        have HGL : Hid (∀ g, (Value.slice la left.length lc).ownBlock = some g → g < w6.heap.size) := fun g e => (own_lt HM6.out.rowL e).2
        rw [ez] at BP
        clear ez hb1 hb2 HM6
        generalize (w6.alloc (.cells #[.string rich.party, .string rich.coin, .int .i64 rich.amt] 51)).alloc (.cells #[.string poor.party, .string poor.coin, .int .i64 poor.amt] 51) = w8 at *
        generalize w6.heap.size = br at *
        obtain ⟨r0, r1, r2, -, -, -⟩ := blk3 BR.out
        obtain ⟨p0, p1, p2, -, -, -⟩ := blk3 BP.out
        have bx0 : w8.cell? ⟨bx, 0, none⟩ = some (.string c) := HM8.out.env.cell 0
        have HPI := Lib.hid (HT.out.lf.ok poor HPO.out.mem).amt
        have HRI2 := Lib.hid (HT.out.lf.ok rich HRI.out.mem).amt
        have HNG := Lib.hid (neg_any poor.amt HPI.out w8)
        by_cases hmin : poor.amt = -9223372036854775808
        · have e1 : negN poor.amt = 0 := by unfold negN; rw [if_pos hmin]
          have e2 : negB poor.amt = false := by unfold negB; rw [decide_eq_true hmin]; rfl
          have HNN : Hid (rich.amt = min rich.amt (-poor.amt)) := by
            have h := HRI2.out
            unfold I64 at h
            show _ = _
            omega
          rw [e1, e2] at HNG
          clear e1 e2 hmin
          go_wp2_with fail
          go_at_call 56
          (with_reducible refine HNG.out.mono ?_)
          rintro x wn ⟨rfl, rfl⟩
          go_upto_region 12 with (fail)
          clear HNG p2
          have hn9 := below_newL w8 (.cells #[.string rich.party, .string poor.party, .string c, .int .i64 rich.amt] 72)
          have HM9 := Lib.hid (HM8.out.below hn9)
          have BR9 := Lib.hid (BR.out.below hn9)
          have BP9 := Lib.hid (BP.out.below hn9)
          have HSB : Hid (w.heap.size ≤ (w8.alloc (.cells #[.string rich.party, .string poor.party, .string c, .int .i64 rich.amt] 72)).heap.size) := HM9.out.bel.size
          have HKM : Hid (out.length + 1 ≤ maxLen ∧ (out.length + 1) * 56 ≤ 140737488355328) := by
            have hmx : maxLen = 9223372036854775807 := by decide
            have := HLN.out
            exact ⟨by omega, by omega⟩
          clear hn9 HM8 BR BP
          go_upto_region 13 with (at_builtin; refine ap_row infoMv Try.underlying28 rfl (by decide) rfl (.tmp 42) (.tmp 50) rfl rfl HM9.out.rowO HSB.out ⟨w8.heap.size, 0, none⟩ 1 1 [.string rich.party, .string poor.party, .string c, .int .i64 rich.amt] rfl rfl (lit_cells_at w8 #[.string rich.party, .string poor.party, .string c, .int .i64 rich.amt] 72 _ rfl) (by simp [Value.oneCell']) HKM.out.1 HKM.out.2 ?_; intro v3 w3 o1 g1 hv1; have HO3 := Lib.hid o1; have HG3 := Lib.hid g1; clear o1 g1 hv1)
          clear r0 r1 r2 p0 p1 bx0
          have HQ := Lib.hid (HT.out.next HC.out HRI.out HPO.out HNN.out)
          have HMV := Lib.hid (mvok HT.out.lf HRI.out HPO.out HNN.out (HT.out.nz _ HRI.out.mem))
          have HIN : Hid (InMem c w w3 bx br rich poor left (out ++ [⟨rich.party, poor.party, c, rich.amt⟩]) (.slice la left.length lc) v3) := by
            refine ⟨⟨HM9.out.bel.grown HG3.out HM9.out.bel.size (fun k e => (own_lt HM9.out.rowO e).1), blk_grown HM9.out.env HG3.out (fun e => blkRow HM9.out.env HM9.out.rowO (by decide) e), own_grown HM9.out.rowL HG3.out (fun k hk e => row_ne HM9.out.rowL HM9.out.rowO (by decide) hk e), ?_⟩, blk_grown BR9.out HG3.out (fun e => blkRow BR9.out HM9.out.rowO (by decide) e), blk_grown BP9.out HG3.out (fun e => blkRow BP9.out HM9.out.rowO (by decide) e), HGL.out⟩
            rw [outM_append, outM_one, List.length_append]
            exact HO3.out
          obtain ⟨oa3, oc3, rfl⟩ := own_slice HO3.out
          clear HM9 BR9 BP9 HSB HKM HO3 HG3 HGL
          generalize hNV : rich.amt = N at *
          clear hNV
          have HQ2 : Hid (ClSt c (coinF c l) ((adjL left rich poor N).filter nzA) (out ++ [⟨rich.party, poor.party, c, N⟩])) := HQ.out
          have HLT2 := Lib.hid (adjL_lt HT.out.lf HMV.out)
          have HOK2 := Lib.hid ((HT.out.lf.next HMV.out).ok)
          have HRP := Lib.hid (HMV.out.ne HT.out.lf.dist)
          have HON : Hid (out.length + 1 = (out ++ [⟨rich.party, poor.party, c, N⟩] : List Mv).length) := by show _ = _; rw [List.length_append]; rfl
          rw [HON.out] at HIN ⊢
          obtain ⟨out2, ho2⟩ : ∃ o, o = out ++ [(⟨rich.party, poor.party, c, N⟩ : Mv)] := ⟨_, rfl⟩
          rw [← ho2] at HIN HQ2 HQ ⊢
          clear HON ho2 HQ
          go_wp2_with fail
          go_loopw [54] (fun v wi => ∃ (i : Nat), v = .int .i64 (i : Nat) ∧ i ≤ left.length ∧ Hid (InMem c w wi bx br rich poor ((adjL left rich poor N).take i ++ left.drop i) out2 (.slice la left.length lc) (.slice oa3 out2.length oc3))) (fun v _ => left.length - (intOf v).toNat)
          case atStart => exact ⟨0, rfl, Nat.zero_le _, by rw [List.take_zero, List.drop_zero, List.nil_append]; exact HIN.out⟩
          case round =>
            clear HIN
            rename World => wi
            obtain ⟨i, rfl, hi, HI⟩ := hrel
            by_cases hlt : i < left.length
            · have hlt' : (i : Int) < (left.length : Int) := by omega
              have i0 : (0 : Int) ≤ (i : Int) := by omega
              have i1 : (i : Int) ≤ 1000 := by have := HLN.out; omega
              obtain ⟨x, hx⟩ : ∃ x, left[i]? = some x := ⟨_, List.getElem?_eq_getElem hlt⟩
              have hsp : left.drop i = x :: left.drop (i + 1) := by
                obtain ⟨h1, h2⟩ := List.getElem?_eq_some_iff.1 hx
                rw [List.drop_eq_getElem_cons h1, h2]
              rw [hsp] at HI
              have hal : (adjL left rich poor N).length = left.length := by rw [adjL_map, List.length_map]
              have htl : ((adjL left rich poor N).take i).length = i := by rw [List.length_take]; omega
              have hxl : ((adjL left rich poor N).take i ++ x :: left.drop (i + 1)).length = left.length := by rw [List.length_append, List.length_cons, htl, List.length_drop]; omega
              obtain ⟨g, cap', z, hv, hz, u0, u1, u2, hfz⟩ := rowA_at HI.out.mem.rowL rfl i (by omega)
              injection hv with e1 e2 e3
              subst e1; subst e3
              have hzx : z = x := by
                rw [List.getElem?_append_right (by omega), htl, Nat.sub_self, List.getElem?_cons_zero] at hz
                exact (Option.some.inj hz).symm
              subst hzx
              have hfx : (adjL left rich poor N)[i]? = some (adj1 poor.party N (adj1 rich.party (-N) z)) := by rw [adjL_map, List.getElem?_map, hx]; rfl
              have htk : (adjL left rich poor N).take (i + 1) = (adjL left rich poor N).take i ++ [adj1 poor.party N (adj1 rich.party (-N) z)] := by
                obtain ⟨h1, h2⟩ := List.getElem?_eq_some_iff.1 hfx
                rw [← List.take_append_getElem h1, h2]
              have hio : I64 (adj1 poor.party N (adj1 rich.party (-N) z)).amt := (HOK2.out _ (List.mem_of_getElem? hfx)).amt
              have had := adj2 (x := z) (n := N) HRP.out
              have HTL := Lib.hid htl
              have HTK := Lib.hid htk
              have HLX := Lib.hid hlt
              have hs1 := same_b z.party rich.party
              have hs2 := same_b z.party poor.party
              obtain ⟨r0, -, -, -, -, -⟩ := blk3 HI.out.rb
              obtain ⟨p0, -, -, -, -, -⟩ := blk3 HI.out.pb
              have hf2 := hfz (i * 3 + 2)
              clear hx hsp hal hxl hz hfx htk htl hfz hlt e2
              by_cases h1 : z.party.data.toList = rich.party.data.toList
              · rw [if_pos h1] at had
                rw [decide_eq_true h1] at hs1
                rw [had] at hio HTK
                have hw : IntKind.i64.wrap (z.amt - N) = z.amt - N := IntWalk.i64_in _ hio
                have HI2 : Hid (InMem c w (wi.setCell ⟨g, i * 3 + 2, none⟩ (.int .i64 (z.amt - N))) bx br rich poor ((adjL left rich poor N).take (i + 1) ++ left.drop (i + 1)) out2 (.slice (some ⟨g, 0, none⟩) left.length lc) (.slice oa3 out2.length oc3)) := by
                  show InMem _ _ _ _ _ _ _ _ _ _ _
                  rw [HTK.out, List.append_assoc]
                  exact HI.out.set HTL.out _
                clear had hio HTK HTL h1 hs2 u1 HI
                go_wp2_with fail
                go_roundw
                case rel => exact ⟨i + 1, by go_num, by have := HLX.out; omega, HI2.out⟩
                case measure => simp [intOf]; have := HLX.out; omega
              · rw [if_neg h1] at had
                rw [decide_eq_false h1] at hs1
                by_cases h2 : z.party.data.toList = poor.party.data.toList
                · rw [if_pos h2] at had
                  rw [decide_eq_true h2] at hs2
                  rw [had] at hio HTK
                  have hw : IntKind.i64.wrap (z.amt + N) = z.amt + N := IntWalk.i64_in _ hio
                  have HI2 : Hid (InMem c w (wi.setCell ⟨g, i * 3 + 2, none⟩ (.int .i64 (z.amt + N))) bx br rich poor ((adjL left rich poor N).take (i + 1) ++ left.drop (i + 1)) out2 (.slice (some ⟨g, 0, none⟩) left.length lc) (.slice oa3 out2.length oc3)) := by
                    show InMem _ _ _ _ _ _ _ _ _ _ _
                    rw [HTK.out, List.append_assoc]
                    exact HI.out.set HTL.out _
                  clear had hio HTK HTL h1 h2 u1 HI
                  go_wp2_with fail
                  go_roundw
                  case rel => exact ⟨i + 1, by go_num, by have := HLX.out; omega, HI2.out⟩
                  case measure => simp [intOf]; have := HLX.out; omega
                · rw [if_neg h2] at had
                  rw [decide_eq_false h2] at hs2
                  rw [had] at HTK
                  have HI2 : Hid (InMem c w wi bx br rich poor ((adjL left rich poor N).take (i + 1) ++ left.drop (i + 1)) out2 (.slice (some ⟨g, 0, none⟩) left.length lc) (.slice oa3 out2.length oc3)) := by
                    show InMem _ _ _ _ _ _ _ _ _ _ _
                    rw [HTK.out, List.append_assoc]
                    exact HI.out
                  clear had hio HTK HTL h1 h2 u1 HI
                  go_wp2_with fail
                  go_roundw
                  case rel => exact ⟨i + 1, by go_num, by have := HLX.out; omega, HI2.out⟩
                  case measure => simp [intOf]; have := HLX.out; omega
            · have hlt' : ¬ (i : Int) < (left.length : Int) := by omega
              have hal : (adjL left rich poor N).length = left.length := by rw [adjL_map, List.length_map]
              rw [List.take_of_length_le (by omega), List.drop_eq_nil_of_le (by omega), List.append_nil] at HI
              have hrl := HI.out.mem.rowL
              rw [hal] at hrl
              have hfl : (adjL left rich poor N).filter (fun x => !pZ c x) = (adjL left rich poor N).filter nzA := by
                refine List.filter_congr (fun x _ => ?_)
                unfold pZ nzA
                by_cases h : x.amt = 0
                · simp [h]
                · simp [h]
              have HDZ := Lib.hid (delfZ_any (adjL left rich poor N) w.heap.size la left.length lc bx c wi hrl hal (by have := HLN.out; omega) trivial HI.out.mem.own)
              rw [hfl] at HDZ
              have HII := Lib.hid HI.out.mem
              have HLW := Lib.hid (fun k e => (own_lt hrl (g := k) e).1)
              have HRL := Lib.hid hrl
              clear hrl hal hfl HI hlt
              go_wp2_with fail
              go_at_call 49
              (with_reducible refine HDZ.out.mono ?_)
              rintro y wz ⟨⟨az, cz, rfl, hrz⟩, gz⟩
              have HMZ : Hid (ClMem c w wz bx ((adjL left rich poor N).filter nzA) out2 (.slice az ((adjL left rich poor N).filter nzA).length cz) (.slice oa3 out2.length oc3)) := ⟨HII.out.bel.grown gz HII.out.bel.size (fun k e => HLW.out k e), blk_grown HII.out.env gz HII.out.own, hrz, own_grown HII.out.rowO gz (fun k hk e => row_ne HII.out.rowO HRL.out (by decide) hk e)⟩
              clear hrz gz HDZ HII HRL HLW
              go_wp2_with fail
              go_roundw
              case rel => exact ⟨_, out2, az, cz, oa3, oc3, rfl, rfl, HMZ.out, HQ2.out⟩
              case measure => exact HLT2.out
        · have e1 : negN poor.amt = -poor.amt := by unfold negN; rw [if_neg hmin]
          have e2 : negB poor.amt = true := by unfold negB; rw [decide_eq_false hmin]; rfl
          rw [e1, e2] at HNG
          clear e1 e2 hmin
          go_wp2_with fail
          go_at_call 56
          (with_reducible refine HNG.out.mono ?_)
          rintro x wn ⟨rfl, rfl⟩
          go_upto_region 12 with (fail)
          clear HNG p2
          have hn9 := below_newL w8 (.cells #[.string rich.party, .string poor.party, .string c, .int .i64 (min rich.amt (-poor.amt))] 72)
          have HM9 := Lib.hid (HM8.out.below hn9)
          have BR9 := Lib.hid (BR.out.below hn9)
          have BP9 := Lib.hid (BP.out.below hn9)
          have HSB : Hid (w.heap.size ≤ (w8.alloc (.cells #[.string rich.party, .string poor.party, .string c, .int .i64 (min rich.amt (-poor.amt))] 72)).heap.size) := HM9.out.bel.size
          have HKM : Hid (out.length + 1 ≤ maxLen ∧ (out.length + 1) * 56 ≤ 140737488355328) := by
            have hmx : maxLen = 9223372036854775807 := by decide
            have := HLN.out
            exact ⟨by omega, by omega⟩
          clear hn9 HM8 BR BP
          go_upto_region 13 with (at_builtin; refine ap_row infoMv Try.underlying28 rfl (by decide) rfl (.tmp 42) (.tmp 50) rfl rfl HM9.out.rowO HSB.out ⟨w8.heap.size, 0, none⟩ 1 1 [.string rich.party, .string poor.party, .string c, .int .i64 (min rich.amt (-poor.amt))] rfl rfl (lit_cells_at w8 #[.string rich.party, .string poor.party, .string c, .int .i64 (min rich.amt (-poor.amt))] 72 _ rfl) (by simp [Value.oneCell']) HKM.out.1 HKM.out.2 ?_; intro v3 w3 o1 g1 hv1; have HO3 := Lib.hid o1; have HG3 := Lib.hid g1; clear o1 g1 hv1)
          clear r0 r1 r2 p0 p1 bx0
          have HQ := Lib.hid (HT.out.next HC.out HRI.out HPO.out rfl)
          have HMV := Lib.hid (mvok HT.out.lf HRI.out HPO.out rfl (HT.out.nz _ HRI.out.mem))
          have HIN : Hid (InMem c w w3 bx br rich poor left (out ++ [⟨rich.party, poor.party, c, (min rich.amt (-poor.amt))⟩]) (.slice la left.length lc) v3) := by
            refine ⟨⟨HM9.out.bel.grown HG3.out HM9.out.bel.size (fun k e => (own_lt HM9.out.rowO e).1), blk_grown HM9.out.env HG3.out (fun e => blkRow HM9.out.env HM9.out.rowO (by decide) e), own_grown HM9.out.rowL HG3.out (fun k hk e => row_ne HM9.out.rowL HM9.out.rowO (by decide) hk e), ?_⟩, blk_grown BR9.out HG3.out (fun e => blkRow BR9.out HM9.out.rowO (by decide) e), blk_grown BP9.out HG3.out (fun e => blkRow BP9.out HM9.out.rowO (by decide) e), HGL.out⟩
            rw [outM_append, outM_one, List.length_append]
            exact HO3.out
          obtain ⟨oa3, oc3, rfl⟩ := own_slice HO3.out
          clear HM9 BR9 BP9 HSB HKM HO3 HG3 HGL
          generalize hNV : (min rich.amt (-poor.amt)) = N at *
          clear hNV
          have HQ2 : Hid (ClSt c (coinF c l) ((adjL left rich poor N).filter nzA) (out ++ [⟨rich.party, poor.party, c, N⟩])) := HQ.out
          have HLT2 := Lib.hid (adjL_lt HT.out.lf HMV.out)
          have HOK2 := Lib.hid ((HT.out.lf.next HMV.out).ok)
          have HRP := Lib.hid (HMV.out.ne HT.out.lf.dist)
          have HON : Hid (out.length + 1 = (out ++ [⟨rich.party, poor.party, c, N⟩] : List Mv).length) := by show _ = _; rw [List.length_append]; rfl
          rw [HON.out] at HIN ⊢
          obtain ⟨out2, ho2⟩ : ∃ o, o = out ++ [(⟨rich.party, poor.party, c, N⟩ : Mv)] := ⟨_, rfl⟩
          rw [← ho2] at HIN HQ2 HQ ⊢
          clear HON ho2 HQ
          go_wp2_with fail
          go_loopw [54] (fun v wi => ∃ (i : Nat), v = .int .i64 (i : Nat) ∧ i ≤ left.length ∧ Hid (InMem c w wi bx br rich poor ((adjL left rich poor N).take i ++ left.drop i) out2 (.slice la left.length lc) (.slice oa3 out2.length oc3))) (fun v _ => left.length - (intOf v).toNat)
          case atStart => exact ⟨0, rfl, Nat.zero_le _, by rw [List.take_zero, List.drop_zero, List.nil_append]; exact HIN.out⟩
          case round =>
            clear HIN
            rename World => wi
            obtain ⟨i, rfl, hi, HI⟩ := hrel
            by_cases hlt : i < left.length
            · have hlt' : (i : Int) < (left.length : Int) := by omega
              have i0 : (0 : Int) ≤ (i : Int) := by omega
              have i1 : (i : Int) ≤ 1000 := by have := HLN.out; omega
              obtain ⟨x, hx⟩ : ∃ x, left[i]? = some x := ⟨_, List.getElem?_eq_getElem hlt⟩
              have hsp : left.drop i = x :: left.drop (i + 1) := by
                obtain ⟨h1, h2⟩ := List.getElem?_eq_some_iff.1 hx
                rw [List.drop_eq_getElem_cons h1, h2]
              rw [hsp] at HI
              have hal : (adjL left rich poor N).length = left.length := by rw [adjL_map, List.length_map]
              have htl : ((adjL left rich poor N).take i).length = i := by rw [List.length_take]; omega
              have hxl : ((adjL left rich poor N).take i ++ x :: left.drop (i + 1)).length = left.length := by rw [List.length_append, List.length_cons, htl, List.length_drop]; omega
              obtain ⟨g, cap', z, hv, hz, u0, u1, u2, hfz⟩ := rowA_at HI.out.mem.rowL rfl i (by omega)
              injection hv with e1 e2 e3
              subst e1; subst e3
              have hzx : z = x := by
                rw [List.getElem?_append_right (by omega), htl, Nat.sub_self, List.getElem?_cons_zero] at hz
                exact (Option.some.inj hz).symm
              subst hzx
              have hfx : (adjL left rich poor N)[i]? = some (adj1 poor.party N (adj1 rich.party (-N) z)) := by rw [adjL_map, List.getElem?_map, hx]; rfl
              have htk : (adjL left rich poor N).take (i + 1) = (adjL left rich poor N).take i ++ [adj1 poor.party N (adj1 rich.party (-N) z)] := by
                obtain ⟨h1, h2⟩ := List.getElem?_eq_some_iff.1 hfx
                rw [← List.take_append_getElem h1, h2]
              have hio : I64 (adj1 poor.party N (adj1 rich.party (-N) z)).amt := (HOK2.out _ (List.mem_of_getElem? hfx)).amt
              have had := adj2 (x := z) (n := N) HRP.out
              have HTL := Lib.hid htl
              have HTK := Lib.hid htk
              have HLX := Lib.hid hlt
              have hs1 := same_b z.party rich.party
              have hs2 := same_b z.party poor.party
              obtain ⟨r0, -, -, -, -, -⟩ := blk3 HI.out.rb
              obtain ⟨p0, -, -, -, -, -⟩ := blk3 HI.out.pb
              have hf2 := hfz (i * 3 + 2)
              clear hx hsp hal hxl hz hfx htk htl hfz hlt e2
              by_cases h1 : z.party.data.toList = rich.party.data.toList
              · rw [if_pos h1] at had
                rw [decide_eq_true h1] at hs1
                rw [had] at hio HTK
                have hw : IntKind.i64.wrap (z.amt - N) = z.amt - N := IntWalk.i64_in _ hio
                have HI2 : Hid (InMem c w (wi.setCell ⟨g, i * 3 + 2, none⟩ (.int .i64 (z.amt - N))) bx br rich poor ((adjL left rich poor N).take (i + 1) ++ left.drop (i + 1)) out2 (.slice (some ⟨g, 0, none⟩) left.length lc) (.slice oa3 out2.length oc3)) := by
                  show InMem _ _ _ _ _ _ _ _ _ _ _
                  rw [HTK.out, List.append_assoc]
                  exact HI.out.set HTL.out _
                clear had hio HTK HTL h1 hs2 u1 HI
                go_wp2_with fail
                go_roundw
                case rel => exact ⟨i + 1, by go_num, by have := HLX.out; omega, HI2.out⟩
                case measure => simp [intOf]; have := HLX.out; omega
              · rw [if_neg h1] at had
                rw [decide_eq_false h1] at hs1
                by_cases h2 : z.party.data.toList = poor.party.data.toList
                · rw [if_pos h2] at had
                  rw [decide_eq_true h2] at hs2
                  rw [had] at hio HTK
                  have hw : IntKind.i64.wrap (z.amt + N) = z.amt + N := IntWalk.i64_in _ hio
                  have HI2 : Hid (InMem c w (wi.setCell ⟨g, i * 3 + 2, none⟩ (.int .i64 (z.amt + N))) bx br rich poor ((adjL left rich poor N).take (i + 1) ++ left.drop (i + 1)) out2 (.slice (some ⟨g, 0, none⟩) left.length lc) (.slice oa3 out2.length oc3)) := by
                    show InMem _ _ _ _ _ _ _ _ _ _ _
                    rw [HTK.out, List.append_assoc]
                    exact HI.out.set HTL.out _
                  clear had hio HTK HTL h1 h2 u1 HI
                  go_wp2_with fail
                  go_roundw
                  case rel => exact ⟨i + 1, by go_num, by have := HLX.out; omega, HI2.out⟩
                  case measure => simp [intOf]; have := HLX.out; omega
                · rw [if_neg h2] at had
                  rw [decide_eq_false h2] at hs2
                  rw [had] at HTK
                  have HI2 : Hid (InMem c w wi bx br rich poor ((adjL left rich poor N).take (i + 1) ++ left.drop (i + 1)) out2 (.slice (some ⟨g, 0, none⟩) left.length lc) (.slice oa3 out2.length oc3)) := by
                    show InMem _ _ _ _ _ _ _ _ _ _ _
                    rw [HTK.out, List.append_assoc]
                    exact HI.out
                  clear had hio HTK HTL h1 h2 u1 HI
                  go_wp2_with fail
                  go_roundw
                  case rel => exact ⟨i + 1, by go_num, by have := HLX.out; omega, HI2.out⟩
                  case measure => simp [intOf]; have := HLX.out; omega
            · have hlt' : ¬ (i : Int) < (left.length : Int) := by omega
              have hal : (adjL left rich poor N).length = left.length := by rw [adjL_map, List.length_map]
              rw [List.take_of_length_le (by omega), List.drop_eq_nil_of_le (by omega), List.append_nil] at HI
              have hrl := HI.out.mem.rowL
              rw [hal] at hrl
              have hfl : (adjL left rich poor N).filter (fun x => !pZ c x) = (adjL left rich poor N).filter nzA := by
                refine List.filter_congr (fun x _ => ?_)
                unfold pZ nzA
                by_cases h : x.amt = 0
                · simp [h]
                · simp [h]
              have HDZ := Lib.hid (delfZ_any (adjL left rich poor N) w.heap.size la left.length lc bx c wi hrl hal (by have := HLN.out; omega) trivial HI.out.mem.own)
              rw [hfl] at HDZ
              have HII := Lib.hid HI.out.mem
              have HLW := Lib.hid (fun k e => (own_lt hrl (g := k) e).1)
              have HRL := Lib.hid hrl
              clear hrl hal hfl HI hlt
              go_wp2_with fail
              go_at_call 49
              (with_reducible refine HDZ.out.mono ?_)
              rintro y wz ⟨⟨az, cz, rfl, hrz⟩, gz⟩
              have HMZ : Hid (ClMem c w wz bx ((adjL left rich poor N).filter nzA) out2 (.slice az ((adjL left rich poor N).filter nzA).length cz) (.slice oa3 out2.length oc3)) := ⟨HII.out.bel.grown gz HII.out.bel.size (fun k e => HLW.out k e), blk_grown HII.out.env gz HII.out.own, hrz, own_grown HII.out.rowO gz (fun k hk e => row_ne HII.out.rowO HRL.out (by decide) hk e)⟩
              clear hrz gz HDZ HII HRL HLW
              go_wp2_with fail
              go_roundw
              case rel => exact ⟨_, out2, az, cz, oa3, oc3, rfl, rfl, HMZ.out, HQ2.out⟩
              case measure => exact HLT2.out
      · have h0' : ¬ (0 : Int) < (left.length : Int) := by omega
        have hl : left = [] := List.length_eq_zero_iff.1 (by omega)
        have HF : Hid (∃ a' c', Value.slice oa out.length oc = .slice a' out.length c' ∧ SlR mvK wr [] out a' out.length c') := outM_any HM.out.rowO HM.out.bel HT.out.ok
        have HCL : Hid (Clr c (coinF c l) out) := by
          have h := HT.out.st [] (by rw [hl]; exact .nil)
          rw [List.append_nil] at h; exact h
        have HBB := Lib.hid HM.out.bel
        clear HM HT hl h0
        go_wp2_with fail
        go_ret
        obtain ⟨a', c', e, hs⟩ := HF.out
        exact ⟨⟨out, a', c', by rw [e]; rfl, hs, fun h => (by rw [← HR.out] at h; cases h), fun _ => HCL.out⟩, HBB.out⟩
end Go.Proofs.Ytgbiimoednmlgaa
