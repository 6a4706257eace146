/- A part of the proof: Last, Rknd, Rfit, one behind another. -/
import Derived.Test.YtmiinmndbkdjbaaMAA
import Derived.Test.YtmiinmndbkdjbaaMAB
import Derived.Test.YtmiinmndbkdjbaaMAC
import Derived.Test.YtmiinmndbkdjbaaMAD
import Derived.Test.YtmiinmndbkdjbaaMAE
import Derived.Test.YtmiinmndbkdjbaaMAF
import Derived.Test.YtmiinmndbkdjbaaMAG
import Derived.Test.YtmiinmndbkdjbaaMAH
import Derived.Test.YtmiinmndbkdjbaaMAI
import Derived.Test.YtmiinmndbkdjbaaMAJ
import Derived.Test.YtmiinmndbkdjbaaMAK
import Derived.Test.YtmiinmndbkdjbaaMAL
import Derived.Test.YtmiinmndbkdjbaaMAM
import Derived.Test.YtmiinmndbkdjbaaMAN
import Derived.Test.YtmiinmndbkdjbaaMAO
import Derived.Test.YtmiinmndbkdjbaaMAQ
import Derived.Test.YtmiinmndbkdjbaaMAR
import Derived.Test.YtmiinmndbkdjbaaMAS
/- The contract of a built tree's Last. -/
namespace Go.Proofs.Ytmiinmndbkdjbaa
set_option linter.unusedVariables false
set_option linter.unusedSimpArgs false
open Go.RowKit
def lastT (ts : List Te) : Option Te := match ts.getLast? with | some t => if rT t = true then some t else none | none => none
theorem lastT_right {ts : List Te} {t : Te} (h : lastT ts = some t) : rT t = true ∧ t ∈ ts := by
  unfold lastT at h
  cases hl : ts.getLast? with
  | none => rw [hl] at h; cases h
  | some u =>
    rw [hl] at h
    by_cases hu : rT u = true
    · simp [hu] at h; subst h; exact ⟨hu, List.mem_of_getLast? hl⟩
    · simp [hu] at h
theorem lastT_of {ts : List Te} {k : Nat} {t : Te} (hk : ts.length = k + 1) (ht : ts[k]? = some t) : lastT ts = if rT t = true then some t else none := by
  unfold lastT
  rw [List.getLast?_eq_getElem?, hk, Nat.add_sub_cancel, ht]
theorem below_set4 {B g : Nat} {w wr : World} {c0 c1 c2 c3 : Value} (h : Below B w wr) (hg : B ≤ g) : Below B w ((((wr.setCell ⟨g, 0, none⟩ c0).setCell ⟨g, 1, none⟩ c1).setCell ⟨g, 2, none⟩ c2).setCell ⟨g, 3, none⟩ c3) :=
  (((h.setCell (p := ⟨g, 0, none⟩) hg c0).setCell (p := ⟨g, 1, none⟩) hg c1).setCell (p := ⟨g, 2, none⟩) hg c2).setCell (p := ⟨g, 3, none⟩) hg c3
set_option maxRecDepth 100000 in
set_option maxHeartbeats 2000000 in
theorem last_any {w : World} {es : List Ex} {ts : List Te} {cs : List Value} (h : TreeIs w [] es ts cs) (hr : ∀ t ∈ ts, t.rk < 1000) (hlen : ts.length ≤ 1000) :
    Calls Try.prog 17 #[.agg cs.toArray] w fun x w' => ((x = .returned (.tuple #[.agg #[.int .i64 0, .string ⟨#[]⟩, .slice none 0 0, .slice none 0 0], .bool false]) ∧ lastT ts = none) ∨ (∃ cs' t, x = .returned (.tuple #[.agg cs'.toArray, .bool true]) ∧ lastT ts = some t ∧ RepT w' [] t cs')) ∧ Below w.heap.size w w' := by
  have HT := Lib.hid h
  obtain ⟨aE, cE, aN, cN, aD, cD, aT, cT, aM, cM, aP, cP, rfl, -, -, -, h4, -, -⟩ := h
  have HB0 := Lib.hid ((((Below.refl w.heap.size w).alloc (Nat.le_refl _) (.cells #[.slice aE es.length cE, .slice aN (nds es).length cN, .slice aD (rks es).length cD, .slice aT ts.length cT, .slice aM (ndsT ts).length cM, .slice aP (rksT ts).length cP] 58)).alloc (by simp) (.cells #[.int .i64 0, .string ⟨#[]⟩, .slice none 0 0, .slice none 0 0] 32)))
  have BX := Lib.hid ((Mem.Blk.new w 58 #[.slice aE es.length cE, .slice aN (nds es).length cN, .slice aD (rks es).length cD, .slice aT ts.length cT, .slice aM (ndsT ts).length cM, .slice aP (rksT ts).length cP]).alloc (.cells #[.int .i64 0, .string ⟨#[]⟩, .slice none 0 0, .slice none 0 0] 32))
  have BY := Lib.hid (Mem.Blk.new (w.alloc (.cells #[.slice aE es.length cE, .slice aN (nds es).length cN, .slice aD (rks es).length cD, .slice aT ts.length cT, .slice aM (ndsT ts).length cM, .slice aP (rksT ts).length cP] 58)) 32 #[.int .i64 0, .string ⟨#[]⟩, .slice none 0 0, .slice none 0 0])
  rw [show (w.alloc (.cells #[.slice aE es.length cE, .slice aN (nds es).length cN, .slice aD (rks es).length cD, .slice aT ts.length cT, .slice aM (ndsT ts).length cM, .slice aP (rksT ts).length cP] 58)).heap.size = w.heap.size + 1 by simp] at BY
  have HR := Lib.hid hr
  have H4 := Lib.hid h4
  clear hr h4
  rcases Nat.eq_zero_or_pos ts.length with hz | hz
  · have hno : lastT ts = none := by
      rw [List.length_eq_zero_iff.1 hz]; rfl
    have HNO := Lib.hid hno
    have hz' : ((ts.length : Int) == 0) = true := by rw [hz]; rfl
    clear hno H4 hz
    go_enter Try.func17, Try.ntmps17
    go_upto_region 1 with (fail)
    generalize (w.alloc (.cells #[.slice aE es.length cE, .slice aN (nds es).length cN, .slice aD (rks es).length cD, .slice aT ts.length cT, .slice aM (ndsT ts).length cM, .slice aP (rksT ts).length cP] 58)).alloc (.cells #[.int .i64 0, .string ⟨#[]⟩, .slice none 0 0, .slice none 0 0] 32) = v at *
    have t0 : v.cell? ⟨w.heap.size, 0, none⟩ = _ := BX.out.cell 0
    have t1 : v.cell? ⟨w.heap.size, 1, none⟩ = _ := BX.out.cell 1
    have t2 : v.cell? ⟨w.heap.size, 2, none⟩ = _ := BX.out.cell 2
    have t3 : v.cell? ⟨w.heap.size, 3, none⟩ = _ := BX.out.cell 3
    have t4 : v.cell? ⟨w.heap.size, 4, none⟩ = _ := BX.out.cell 4
    have t5 : v.cell? ⟨w.heap.size, 5, none⟩ = _ := BX.out.cell 5
    simp only [List.getElem?_toArray, List.getElem?_cons_zero, List.getElem?_cons_succ] at t0 t1 t2 t3 t4 t5
    obtain ⟨z0, z1, z2, z3, y0, y1, y2, y3⟩ := blk4 BY.out
    go_wp2_with fail
    exact bodyPost_ret (by simp [results, Try.results17, go_sem, z0, z1, z2, z3]) rfl ⟨.inl ⟨rfl, HNO.out⟩, below_set4 HB0.out (Nat.le_add_right _ 1)⟩
  · obtain ⟨k, hk⟩ : ∃ k, ts.length = k + 1 := ⟨ts.length - 1, by omega⟩
    obtain ⟨t, ht⟩ : ∃ t, ts[k]? = some t := ⟨_, List.getElem?_eq_getElem (by omega)⟩
    have HL := Lib.hid (lastT_of hk ht)
    have HC := Lib.hid (fun W (hW : Below w.heap.size w W) => treeRight_any (HT.out.kept (Kept.of_below hW [])) k ht (HR.out t (List.mem_of_getElem? ht)))
    obtain ⟨bt, ot, xt, ct, rfl, -, -, hxt, hRt, -, hct⟩ := H4.out.at k (by omega)
    obtain rfl : t = xt := by rw [ht] at hxt; injection hxt
    have HRT := Lib.hid (show RepT w [] t ct from hRt)
    obtain ⟨o5, e5, x5, t5, p5, l5, r5, p6, l6, r6, -, rfl, -⟩ := hRt.inv
    have HCT : Hid (∀ j c, [.int .i64 o5, .string e5, .slice p5 l5 r5, .slice p6 l6 r6][j]? = some c → w.cell? ⟨bt, ot + k * 4 + j, none⟩ = some c) := hct
    have hkb : k < 1000 := by omega
    clear hxt hRt hct ht H4
    have hw : (ts.length : Int) - 1 = (k : Int) := by omega
    have hk0 : ¬ ((ts.length : Int) = 0) := by omega
    have hk1 : ((ts.length : Int) == 0) = false := beq_eq_false_iff_ne.2 hk0
    have hk2 : (0 : Int) ≤ (k : Int) := by omega
    have hk3 : (k : Int) < (ts.length : Int) := by omega
    clear hz hk
    go_enter Try.func17, Try.ntmps17
    go_upto_region 1 with (fail)
    generalize (w.alloc (.cells #[.slice aE es.length cE, .slice aN (nds es).length cN, .slice aD (rks es).length cD, .slice (some ⟨bt, ot, none⟩) ts.length cT, .slice aM (ndsT ts).length cM, .slice aP (rksT ts).length cP] 58)).alloc (.cells #[.int .i64 0, .string ⟨#[]⟩, .slice none 0 0, .slice none 0 0] 32) = v at *
    have t0 : v.cell? ⟨w.heap.size, 0, none⟩ = _ := BX.out.cell 0
    have t1 : v.cell? ⟨w.heap.size, 1, none⟩ = _ := BX.out.cell 1
    have t2 : v.cell? ⟨w.heap.size, 2, none⟩ = _ := BX.out.cell 2
    have t3 : v.cell? ⟨w.heap.size, 3, none⟩ = _ := BX.out.cell 3
    have t4 : v.cell? ⟨w.heap.size, 4, none⟩ = _ := BX.out.cell 4
    have t5 : v.cell? ⟨w.heap.size, 5, none⟩ = _ := BX.out.cell 5
    simp only [List.getElem?_toArray, List.getElem?_cons_zero, List.getElem?_cons_succ] at t0 t1 t2 t3 t4 t5
    obtain ⟨z0, z1, z2, z3, y0, y1, y2, y3⟩ := blk4 BY.out
    go_wp2_with fail
    go_at_call 35
    (with_reducible refine (HC.out v HB0.out).mono ?_)
    rintro y w1 ⟨rfl, b1⟩
    have HB1 := Lib.hid (HB0.out.trans (b1.mono HB0.out.size))
    have BX1 := Lib.hid (BX.out.below b1)
    have BY1 := Lib.hid (BY.out.below b1)
    have HRT1 := Lib.hid (RepT.kept (HRT.out.less (X' := [w.heap.size + 1]) (fun b hb hm => by rw [List.mem_singleton] at hm; omega)) (Kept.of_below HB1.out _))
    clear b1 HC t0 t1 t2 t3 t4 t5 z0 z1 z2 z3 y0 y1 y2 y3
    have t3 : w1.cell? ⟨w.heap.size, 3, none⟩ = _ := BX1.out.cell 3
    simp only [List.getElem?_toArray, List.getElem?_cons_zero, List.getElem?_cons_succ] at t3
    obtain ⟨z0, z1, z2, z3, y0, y1, y2, y3⟩ := blk4 BY1.out
    cases hrt : rT t
    · have HNO : Hid (lastT ts = none) := by show _ = _; rw [HL.out, hrt]; rfl
      clear hrt HL HCT
      go_wp2_with fail
      exact bodyPost_ret (by simp [results, Try.results17, go_sem, z0, z1, z2, z3]) rfl ⟨.inl ⟨rfl, HNO.out⟩, below_set4 HB1.out (Nat.le_add_right _ 1)⟩
    · have HYES : Hid (lastT ts = some t) := by show _ = _; rw [HL.out, hrt]; rfl
      have v0 : w1.cell? ⟨bt, ot + k * 4, none⟩ = some (.int .i64 o5) := cell_up (HCT.out 0 _ rfl) HB1.out
      have v1 : w1.cell? ⟨bt, ot + k * 4 + 1, none⟩ = some (.string e5) := cell_up (HCT.out 1 _ rfl) HB1.out
      have v2 : w1.cell? ⟨bt, ot + k * 4 + 2, none⟩ = some (.slice p5 l5 r5) := cell_up (HCT.out 2 _ rfl) HB1.out
      have v3 : w1.cell? ⟨bt, ot + k * 4 + 3, none⟩ = some (.slice p6 l6 r6) := cell_up (HCT.out 3 _ rfl) HB1.out
      clear hrt HL HCT
      go_wp2_with fail
      obtain ⟨n1, n2, n3⟩ := simp_fin HB1.out BY1.out HRT1.out
      exact bodyPost_ret (by simp [results, Try.results17, go_sem, z0, z1, z2, z3]) rfl ⟨.inr ⟨_, t, rfl, HYES.out, n1⟩, n2⟩
end Go.Proofs.Ytmiinmndbkdjbaa

/- The contract of ref21.Kind and of a built tree's RightExpr; condition: the expression is built as it must be. -/
namespace Go.Proofs.Ytmiinmndbkdjbaa
set_option linter.unusedVariables false
set_option linter.unusedSimpArgs false
open Go.RowKit
theorem ar_le3 (op : Int) : ar op ≤ 3 := by
  unfold ar
  repeat' split
  all_goals omega
theorem take_snoc {α : Type} {l : List α} {k : Nat} {x : α} (h : l[k]? = some x) : l.take (k + 1) = l.take k ++ [x] := by
  rw [List.take_add_one, h]; rfl
theorem rkOf_small {op : Int} {l : List Int} (h : op ≤ 4) : rkOf op l = 1 := by unfold rkOf; rw [if_pos h]
theorem rkOf_one {op : Int} {l : List Int} (h : ¬ op ≤ 4) (h2 : op ≤ 10 ∨ op = 20) : rkOf op l = if l.all (fun k => decide (k = 1)) then 1 else 0 := by
  unfold rkOf
  rw [if_neg h]
  cases hb : l.all (fun k => decide (k = 1)) with
  | true => simp [h2]
  | false =>
    have h3 : ¬ (17 ≤ op ∧ op ≤ 19) := by omega
    have h4 : ¬ op = 21 := by omega
    simp
    rw [if_neg (by omega), if_neg (by omega)]
theorem rkOf_cmp {op : Int} {l : List Int} (h1 : 11 ≤ op) (h2 : op ≤ 16) : rkOf op l = if l.all (fun k => decide (k = 1)) then 2 else 0 := by
  unfold rkOf
  rw [if_neg (by omega), if_neg (by omega)]
  cases hb : l.all (fun k => decide (k = 1)) with
  | true => simp [h1, h2]
  | false =>
    simp
    rw [if_neg (by omega), if_neg (by omega)]
theorem rkOf_log {op : Int} {l : List Int} (h1 : 17 ≤ op) (h2 : op ≤ 19) : rkOf op l = if l.all (fun k => decide (k = 2)) then 2 else 0 := by
  unfold rkOf
  rw [if_neg (by omega), if_neg (by omega), if_neg (by omega)]
  cases hb : l.all (fun k => decide (k = 2)) with
  | true => simp [h1, h2]
  | false =>
    simp
    intro h; omega
theorem rkOf_if {l : List Int} : rkOf 21 l = if l.getD 0 0 = 2 ∧ l.getD 1 0 = l.getD 2 0 then l.getD 1 0 else 0 := by
  unfold rkOf
  rw [if_neg (by omega), if_neg (by omega), if_neg (by omega), if_neg (by omega)]
  simp
set_option maxRecDepth 100000 in
set_option maxHeartbeats 4000000 in
theorem rkind_any : ∀ (r : Nat) (e : Ex), e.rk ≤ r → bE e = true → ∀ (cs : List Value) (w : World), RepE w [] e cs →
    Calls Try.prog 36 #[.agg cs.toArray] w fun x w' => x = .returned (.int .i64 (kE e)) ∧ Below w.heap.size w w' := by
  intro r
  induction r with
  | zero => intro e h; have := e.rk_pos; omega
  | succ r ih =>
    intro e hr hb cs w hR
    obtain ⟨op, no, nm, args, a, len, cap, rfl, rfl, i1, i2, i3, hS⟩ := hR.inv
    obtain ⟨g1, -, g3⟩ := bE_inv hb
    obtain ⟨f1, f2, f3⟩ := hS.facts
    obtain ⟨o1, o2⟩ := ar_op (by omega : 0 ≤ ar op)
    have HI : Hid (∀ (k : Nat) e1, args[k]? = some e1 → ∀ cs1 W, RepE W [] e1 cs1 → Calls Try.prog 36 #[.agg cs1.toArray] W fun x w' => x = .returned (.int .i64 (kE e1)) ∧ Below W.heap.size W w') := by
      intro k e1 hk cs1 W hR1
      exact ih e1 (by have := Ex.rk_lt (op := op) (n := no) (nm := nm) hk; omega) (g3 e1 (List.mem_of_getElem? hk)) cs1 W hR1
    have hle : len ≤ 3 := by have := ar_le3 op; omega
    have HBD : Hid (∀ x, I64 (kE x)) := fun x => by have := kE_bd x.rk x (Nat.le_refl _); unfold I64; omega
    have HKM : Hid (kE (.mk op no nm args) = rkOf op (args.map kE)) := by show _ = _; rw [kE_mk, rkOf_eq (by rw [List.length_map]; exact g1)]
    have HL3 : Hid (op = 21 → len = 3) := fun h => by subst h; rw [show ar 21 = 3 by decide] at g1; omega
    have HB0 := Lib.hid ((Below.refl w.heap.size w).alloc (Nat.le_refl _) (.cells #[.int .i64 op, .int .i64 no, .string nm, .slice a len cap] 53))
    have BX := Lib.hid (Mem.Blk.new w 53 #[.int .i64 op, .int .i64 no, .string nm, .slice a len cap])
    have HSS := Lib.hid (hS.kept (Kept.of_below HB0.out []))
    have HL := Lib.hid f1
    rw [HKM.out]
    clear ih hr hR hS i1 i2 i3 f1 g1 g3 hb HKM
    generalize hRR : rkOf op (args.map kE) = R
    have HR := Lib.hid hRR
    clear hRR
    go_enter Try.func36, Try.ntmps36
    go_upto_region 1 with (fail)
    generalize w.alloc (.cells #[.int .i64 op, .int .i64 no, .string nm, .slice a len cap] 53) = v at *
    obtain ⟨c0, c1, c2, c3, -, -, -, -⟩ := blk4 BX.out
    go_wp2_with fail
    go_loopw [3, 4] (fun s i wr => ∃ (k : Nat) (csl : List (List Value)), i = .int .i64 (k : Nat) ∧ k ≤ len ∧ Hid (Below v.heap.size v wr) ∧ Hid (Gro i64K 3 v.heap.size wr [] ((args.take k).map kE) s csl)) (fun _ i _ => len - (intOf i).toNat)
    case atStart => exact ⟨0, [], rfl, Nat.zero_le _, Below.refl _ _, Gro.start _ _ (Nat.le_refl _) (fun b h => by cases h)⟩
    case round =>
      obtain ⟨k, csl, rfl, hk, HB, HG⟩ := hrel
      have c0' := cell_up c0 HB.out
      have c3' := cell_up c3 HB.out
      have HSw := Lib.hid (HSS.out.kept (Kept.of_below HB.out []))
      clear c0 c1 c2 c3 HSS
      by_cases hlt : k < len
      · obtain ⟨b, o, cop, cn, cnm, cargs, ca, clen, ccap, rfl, -, -, hxe, j1, j2, j3, hSc, v0, v1, v2, v3⟩ := HSw.out.at k hlt
        have j1' : (k : Int) < (len : Int) := by omega
        have j0' : (0 : Int) ≤ (k : Int) := by omega
        have HXE := Lib.hid hxe
        have HSC := Lib.hid (RepE.mk' j1 j2 j3 hSc)
        have HC := Lib.hid (HI.out k _ HXE.out _ _ HSC.out)
        have HTK := Lib.hid (show (args.take (k + 1)).map kE = (args.take k).map kE ++ [kE (Ex.mk cop cn cnm cargs)] by rw [take_snoc HXE.out, List.map_append]; rfl)
        have HLT := Lib.hid (show ((args.take k).map kE).length = k by rw [List.length_map, List.length_take, HL.out]; omega)
        have HXB := Lib.hid (HBD.out (Ex.mk cop cn cnm cargs))
        clear hxe j1 j2 j3 hSc HSC HXE HI
        generalize kE (Ex.mk cop cn cnm cargs) = kc at *
        generalize (args.take k).map kE = L at *
        go_wp2_with fail
        go_at_call 36
        (with_reducible refine HC.out.mono ?_)
        rintro y w2 ⟨rfl, bb⟩
        have HB2 := Lib.hid (HB.out.trans (bb.mono HB.out.size))
        have HG2 := Lib.hid ((HG.out.below bb).alloc (.cells #[.int .i64 kc] 3))
        have HBA := Lib.hid (HB2.out.alloc HB2.out.size (.cells #[.int .i64 kc] 3))
        clear bb HC HG v0 v1 v2 v3 c0' c3' HB
        go_wp2_with (at_builtin; refine ap_row infoI Try.underlying56 rfl (by decide) rfl (.tmp 12) (.tmp 19) rfl rfl HG2.out.own HG2.out.room ⟨w2.heap.size, 0, none⟩ 1 1 [.int .i64 kc] rfl rfl (lit_cells_at w2 #[.int .i64 kc] 3 _ rfl) (by simp [Value.oneCell']) (by have := HLT.out; unfold maxLen; omega) (by have := HLT.out; omega) ?_; intro v' w' o' g' h'; have HG3 := Lib.hid (HG2.out.push (cs := [.int .i64 kc]) ⟨rfl, HXB.out⟩ o' g' h'); have HB3 := Lib.hid (HBA.out.grown g' HBA.out.size (fun b hb => (own_lt HG2.out.own hb).1)); clear o' g' h')
        go_roundw
        case rel => exact ⟨k + 1, _, by go_num, by omega, HB3.out, by rw [HTK.out]; exact HG3.out⟩
        case measure => simp [intOf]; omega
      · have hk' : ¬ (k : Int) < (len : Int) := by omega
        obtain rfl : k = len := by omega
        obtain ⟨aL, cL, rfl, hSL⟩ := HG.out.slR
        have hTK : (args.take k).map kE = args.map kE := by rw [List.take_of_length_le (by have := HL.out; omega)]
        rw [hTK] at hSL
        have hln : (args.map kE).length = k := by rw [List.length_map, HL.out]
        rw [hTK]
        rw [hln] at hSL ⊢
        have HSL := Lib.hid hSL
        have HA := Lib.hid (fun q => all_any (args.map kE) aL k cL q wr HSL.out)
        have HF := Lib.hid (HB0.out.trans (HB.out.mono HB0.out.size))
        clear hTK HG hSL HSw HI HBD HL HB HB0
        generalize args.map kE = L at *
        by_cases h4 : op ≤ 4
        · rw [rkOf_small h4] at HR
          obtain rfl := HR.out
          clear HR
          go_wp2_with fail
          go_ret
          exact ⟨rfl, HF.out⟩
        · by_cases h10 : op ≤ 10
          · rw [rkOf_one h4 (.inl h10)] at HR
            have HA := Lib.hid (HA.out 1)
            generalize L.all (fun k => decide (k = 1)) = B at *
            have h11 : ¬ 11 ≤ op := by omega
            have h17 : ¬ 17 ≤ op := by omega
            have h21 : (op == 21) = false := beq_eq_false_iff_ne.2 (by omega)
            cases B
            · rw [if_neg (by decide)] at HR
              obtain rfl := HR.out
              clear HR
              go_wp2_with fail
              go_at_call 57
              (with_reducible refine HA.out.mono ?_)
              rintro y w3 ⟨rfl, rfl⟩
              go_wp2_with fail
              go_region
              go_wp2_with fail
              go_ret
              exact ⟨rfl, HF.out.drew⟩
            · rw [if_pos rfl] at HR
              obtain rfl := HR.out
              clear HR
              go_wp2_with fail
              go_at_call 57
              (with_reducible refine HA.out.mono ?_)
              rintro y w3 ⟨rfl, rfl⟩
              go_wp2_with fail
              go_ret
              exact ⟨rfl, HF.out⟩
          · by_cases h20 : op = 20
            · subst h20
              rw [rkOf_one h4 (.inr rfl)] at HR
              have HA := Lib.hid (HA.out 1)
              generalize L.all (fun k => decide (k = 1)) = B at *
              cases B
              · rw [if_neg (by decide)] at HR
                obtain rfl := HR.out
                clear HR
                go_wp2_with fail
                go_at_call 57
                (with_reducible refine HA.out.mono ?_)
                rintro y w3 ⟨rfl, rfl⟩
                go_wp2_with fail
                go_region
                go_wp2_with fail
                go_ret
                exact ⟨rfl, HF.out.drew⟩
              · rw [if_pos rfl] at HR
                obtain rfl := HR.out
                clear HR
                go_wp2_with fail
                go_at_call 57
                (with_reducible refine HA.out.mono ?_)
                rintro y w3 ⟨rfl, rfl⟩
                go_wp2_with fail
                go_ret
                exact ⟨rfl, HF.out⟩
            · have h20' : (op == 20) = false := beq_eq_false_iff_ne.2 h20
              by_cases h16 : op ≤ 16
              · have h11 : 11 ≤ op := by omega
                rw [rkOf_cmp h11 h16] at HR
                have HA := Lib.hid (HA.out 1)
                generalize L.all (fun k => decide (k = 1)) = B at *
                have h17 : ¬ 17 ≤ op := by omega
                have h21 : (op == 21) = false := beq_eq_false_iff_ne.2 (by omega)
                cases B
                · rw [if_neg (by decide)] at HR
                  obtain rfl := HR.out
                  clear HR
                  go_wp2_with fail
                  go_at_call 57
                  (with_reducible refine HA.out.mono ?_)
                  rintro y w3 ⟨rfl, rfl⟩
                  go_wp2_with fail
                  go_region
                  go_wp2_with fail
                  go_ret
                  exact ⟨rfl, HF.out.drew⟩
                · rw [if_pos rfl] at HR
                  obtain rfl := HR.out
                  clear HR
                  go_wp2_with fail
                  go_at_call 57
                  (with_reducible refine HA.out.mono ?_)
                  rintro y w3 ⟨rfl, rfl⟩
                  go_wp2_with fail
                  go_ret
                  exact ⟨rfl, HF.out⟩
              · have h11 : 11 ≤ op := by omega
                by_cases h21 : op = 21
                · subst h21
                  obtain rfl := HL3.out rfl
                  rw [rkOf_if] at HR
                  obtain ⟨b, o, x0, cs0, rfl, -, -, hx0, ⟨rfl, -⟩, -, hc0⟩ := HSL.out.at 0 (by omega)
                  obtain ⟨b', o', x1, cs1, e1, -, -, hx1, ⟨rfl, -⟩, -, hc1⟩ := HSL.out.at 1 (by omega)
                  injection e1 with e1; injection e1 with e1 e2; subst e1; subst e2
                  obtain ⟨b', o', x2, cs2, e1, -, -, hx2, ⟨rfl, -⟩, -, hc2⟩ := HSL.out.at 2 (by omega)
                  injection e1 with e1; injection e1 with e1 e2; subst e1; subst e2
                  have u0 : wr.cell? ⟨b, o, none⟩ = some (.int .i64 x0) := by have := hc0 0 _ rfl; simpa [i64K] using this
                  have u1 : wr.cell? ⟨b, o + 1, none⟩ = some (.int .i64 x1) := by have := hc1 0 _ rfl; simpa [i64K] using this
                  have u2 : wr.cell? ⟨b, o + 2, none⟩ = some (.int .i64 x2) := by have := hc2 0 _ rfl; simpa [i64K] using this
                  have e0 : L.getD 0 0 = x0 := by rw [List.getD_eq_getElem?_getD, hx0]; rfl
                  have e1 : L.getD 1 0 = x1 := by rw [List.getD_eq_getElem?_getD, hx1]; rfl
                  have e2 : L.getD 2 0 = x2 := by rw [List.getD_eq_getElem?_getD, hx2]; rfl
                  rw [e0, e1, e2] at HR
                  clear hc0 hc1 hc2 e0 e1 e2 hx0 hx1 hx2 HSL HA h4 h10 h16 h11 h20
                  by_cases hk0 : x0 = 2
                  · subst hk0
                    by_cases hk1 : x1 = x2
                    · subst hk1
                      rw [if_pos ⟨rfl, rfl⟩] at HR
                      obtain rfl := HR.out
                      clear HR
                      go_wp2_with fail
                      go_region
                      go_wp2_with fail
                      go_ret
                      exact ⟨rfl, HF.out.drew⟩
                    · have hk1' : (x1 == x2) = false := beq_eq_false_iff_ne.2 hk1
                      rw [if_neg (fun h => hk1 h.2)] at HR
                      obtain rfl := HR.out
                      clear HR
                      go_wp2_with fail
                      go_region
                      go_wp2_with fail
                      go_ret
                      exact ⟨rfl, HF.out.drew⟩
                  · have hk0' : (x0 == 2) = false := beq_eq_false_iff_ne.2 hk0
                    rw [if_neg (fun h => hk0 h.1)] at HR
                    obtain rfl := HR.out
                    clear HR
                    go_wp2_with fail
                    go_region
                    go_wp2_with fail
                    go_ret
                    exact ⟨rfl, HF.out.drew⟩
                · have h19 : op ≤ 19 := by omega
                  have h17 : 17 ≤ op := by omega
                  have h21 : (op == 21) = false := beq_eq_false_iff_ne.2 h21
                  rw [rkOf_log h17 h19] at HR
                  have HA := Lib.hid (HA.out 2)
                  generalize L.all (fun k => decide (k = 2)) = B at *
                  cases B
                  · rw [if_neg (by decide)] at HR
                    obtain rfl := HR.out
                    clear HR
                    go_wp2_with fail
                    go_at_call 57
                    (with_reducible refine HA.out.mono ?_)
                    rintro y w3 ⟨rfl, rfl⟩
                    go_wp2_with fail
                    go_region
                    go_wp2_with fail
                    go_ret
                    exact ⟨rfl, HF.out.drew⟩
                  · rw [if_pos rfl] at HR
                    obtain rfl := HR.out
                    clear HR
                    go_wp2_with fail
                    go_at_call 57
                    (with_reducible refine HA.out.mono ?_)
                    rintro y w3 ⟨rfl, rfl⟩
                    go_wp2_with fail
                    go_ret
                    exact ⟨rfl, HF.out⟩
end Go.Proofs.Ytmiinmndbkdjbaa

/- The contract of ref21.Fits; condition: built. -/
namespace Go.Proofs.Ytmiinmndbkdjbaa
set_option linter.unusedVariables false
set_option linter.unusedSimpArgs false
open Go.RowKit
theorem arX_le1 (op : Int) : arX op ≤ 1 := by
  unfold arX
  repeat' split
  all_goals omega
set_option maxRecDepth 100000 in
set_option maxHeartbeats 4000000 in
theorem rfits_any : ∀ (r : Nat) (e : Te), e.rk ≤ r → bT e = true → ∀ (cs : List Value) (w : World), RepT w [] e cs →
    Calls Try.prog 18 #[.agg cs.toArray] w fun x w' => x = .returned (.bool (fitT e)) ∧ Below w.heap.size w w' := by
  intro r
  induction r with
  | zero => intro e h; have := e.rk_pos; omega
  | succ r ih =>
    intro e hr hb cs w hR
    obtain ⟨op, nm, exprs, terms, a, len, cap, a2, len2, cap2, rfl, rfl, i1, i3, hS, hS2⟩ := hR.inv
    obtain ⟨g1, -, -, g4, g5⟩ := bT_inv hb
    obtain ⟨f1, f2, f3⟩ := hS.facts
    obtain ⟨f4, f5, f6⟩ := hS2.facts
    have hlen1 : len ≤ 1 := by have := arX_le1 op; omega
    have HI : Hid (∀ (k : Nat) e1, terms[k]? = some e1 → ∀ cs1 W, RepT W [] e1 cs1 → Calls Try.prog 18 #[.agg cs1.toArray] W fun x w' => x = .returned (.bool (fitT e1)) ∧ Below W.heap.size W w') := by
      intro k e1 hk cs1 W hR1
      exact ih e1 (by have := Te.rk_lt (op := op) (nm := nm) (x := exprs) hk; omega) (g5 e1 (List.mem_of_getElem? hk)) cs1 W hR1
    have HK : Hid (∀ (k : Nat) e1, exprs[k]? = some e1 → ∀ cs1 W, RepE W [] e1 cs1 → Calls Try.prog 36 #[.agg cs1.toArray] W fun x w' => x = .returned (.int .i64 (kE e1)) ∧ Below W.heap.size W w') := by
      intro k e1 hk cs1 W hR1
      exact rkind_any e1.rk e1 (Nat.le_refl _) (g4 e1 (List.mem_of_getElem? hk)) cs1 W hR1
    have HNX := Lib.hid (fun (j : Nat) c (h : exprs[j]? = some c) (hne : kE c ≠ needT op) => fitT_noX (nm := nm) (l := terms) h hne)
    have HNT := Lib.hid (fun (j : Nat) c (h : terms[j]? = some c) (hne : fitT c = false) => fitT_noT (op := op) (nm := nm) (x := exprs) h hne)
    have HY := Lib.hid (fun (h1 : ∀ (j : Nat) c, exprs[j]? = some c → kE c = needT op) (h2 : ∀ (j : Nat) c, terms[j]? = some c → fitT c = true) => fitT_yes (nm := nm) h1 h2)
    have HND : Hid (needT op = if op = 6 then 1 else 2) := rfl
    have HB0 := Lib.hid ((Below.refl w.heap.size w).alloc (Nat.le_refl _) (.cells #[.int .i64 op, .string nm, .slice a len cap, .slice a2 len2 cap2] 32))
    have BX := Lib.hid (Mem.Blk.new w 32 #[.int .i64 op, .string nm, .slice a len cap, .slice a2 len2 cap2])
    have HSS := Lib.hid (hS.kept (Kept.of_below HB0.out []))
    have HST := Lib.hid (hS2.kept (Kept.of_below HB0.out []))
    have HL := Lib.hid f1
    have HL2 := Lib.hid f4
    clear ih hr hR hS hS2 i1 i3 f1 f4 g1 g4 g5 hb
    generalize fitT (.mk op nm exprs terms) = R at *
    generalize needT op = nd at *
    go_enter Try.func18, Try.ntmps18
    go_upto_region 1 with (fail)
    generalize w.alloc (.cells #[.int .i64 op, .string nm, .slice a len cap, .slice a2 len2 cap2] 32) = v at *
    obtain ⟨c0, c1, c2, c3, -, -, -, -⟩ := blk4 BX.out
    by_cases hl : len = 1
    · have hl' : ((len : Int) == 1) = true := by rw [hl]; rfl
      obtain ⟨b, o, cop, cn, cnm, cargs, ca, clen, ccap, rfl, -, -, hxe, j1, j2, j3, hSc, v0, v1, v2, v3⟩ := HSS.out.at 0 (by omega)
      rw [Nat.zero_mul, Nat.add_zero] at v0 v1 v2 v3
      have HC := Lib.hid (HK.out 0 _ hxe _ v (RepE.mk' j1 j2 j3 hSc))
      have HX3 := Lib.hid (fun h => HNX.out 0 _ hxe h)
      have HX2 : Hid (kE (Ex.mk cop cn cnm cargs) = nd → ∀ (j : Nat) c, exprs[j]? = some c → kE c = nd) := fun h j c hc => by
        have hj : j = 0 := by have := (List.getElem?_eq_some_iff.1 hc).1; have := HL.out; omega
        subst hj
        rw [hxe] at hc
        injection hc with hc
        rw [← hc]; exact h
      have j0 : (0 : Int) < (len : Int) := by omega
      have HLE := Lib.hid hl
      clear hxe j1 j2 j3 hSc HK HNX hl
      generalize kE (Ex.mk cop cn cnm cargs) = kc at *
      go_wp2_with fail
      go_at_call 36
      (with_reducible refine HC.out.mono ?_)
      rintro y w1 ⟨rfl, b1⟩
      have HW1 := Lib.hid b1
      clear b1 HC c0 c1 c2 c3 v0 v1 v2 v3
      obtain ⟨c0, c1, c2, c3, -, -, -, -⟩ := blk4 (BX.out.below HW1.out)
      by_cases hkn : kc = nd
      · have HX := Lib.hid (HX2.out hkn)
        by_cases h6 : op = 6
        · have hk1 : kc = 1 := by rw [hkn, HND.out, if_pos h6]
          have h6' : (op == 6) = true := by rw [h6]; rfl
          have hk' : (kc == 1) = true := by rw [hk1]; rfl
          have hk'' : (kc != 1) = false := by rw [hk1]; rfl
          have h6'' : (op != 6) = false := by rw [h6]; rfl
          clear hkn hk1 h6 HX2 HX3 HND
          go_wp2_with fail
          clear c0 c1 c2 c3
          go_loopw [4] (fun i wr => ∃ k : Nat, i = .int .i64 (k : Nat) ∧ k ≤ len2 ∧ Hid (Below v.heap.size v wr) ∧ Hid (∀ (j : Nat) x, j < k → terms[j]? = some x → fitT x = true)) (fun i _ => len2 - (intOf i).toNat)
          case atStart => exact ⟨0, rfl, Nat.zero_le _, HW1.out, fun j x h => by omega⟩
          case round =>
            clear HW1
            obtain ⟨k, rfl, hk, HB, HP⟩ := hrel
            obtain ⟨c0, c1, c2, c3, -, -, -, -⟩ := blk4 (BX.out.below HB.out)
            by_cases hlt : k < len2
            · obtain ⟨b3, o3, cop3, cnm3, cex3, cte3, ca3, clen3, ccap3, cb3, clen4, ccap4, rfl, -, -, hxe, j1, j2, hSc, hTc, v0, v1, v2, v3⟩ := (HST.out.kept (Kept.of_below HB.out [])).at k hlt
              have j1' : (k : Int) < (len2 : Int) := by omega
              have j0' : (0 : Int) ≤ (k : Int) := by omega
              have HC := Lib.hid (HI.out k _ hxe _ wr (RepT.mk' j1 j2 hSc hTc))
              have HNO := Lib.hid (HNT.out k _ hxe)
              have HXE : Hid (∀ x, terms[k]? = some x → x = Te.mk cop3 cnm3 cex3 cte3) := fun x hx => by rw [hxe] at hx; injection hx with hx; exact hx.symm
              clear hxe j1 j2 hSc hTc
              generalize Te.mk cop3 cnm3 cex3 cte3 = c at *
              go_wp2_with fail
              go_at_call 18
              (with_reducible refine HC.out.mono ?_)
              rintro y w2 ⟨rfl, b2⟩
              have HB2 := Lib.hid (HB.out.trans (b2.mono HB.out.size))
              clear b2 HC v0 v1 v2 v3 c0 c1 c2 c3 HB
              cases hf : fitT c
              · have hR : R = false := HNO.out hf
                have HBW := Lib.hid (HB0.out.trans (HB2.out.mono HB0.out.size))
                clear hf HNO HNT HY HI HP
                subst hR
                go_wp2_with fail
                go_ret
                exact ⟨rfl, HBW.out⟩
              · have FIN : Hid (∀ (j : Nat) x, j < k + 1 → terms[j]? = some x → fitT x = true) := fun j x hj hx => by
                  rcases Nat.eq_or_lt_of_le (Nat.le_of_lt_succ hj) with rfl | h
                  · rw [HXE.out x hx]; exact hf
                  · exact HP.out j x h hx
                clear hf HNO HP HXE
                go_wp2_with fail
                go_roundw
                case rel => exact ⟨k + 1, by go_num, by omega, HB2.out, FIN.out⟩
                case measure => simp [intOf]; omega
            · have hk9 : ¬ (k : Int) < (len2 : Int) := by omega
              have hR : R = true := HY.out HX.out (fun j x hx => HP.out j x (by have := (List.getElem?_eq_some_iff.1 hx).1; have := HL2.out; omega) hx)
              have HBW := Lib.hid (HB0.out.trans (HB.out.mono HB0.out.size))
              clear HNT HY HI HP HX HB
              subst hR
              go_wp2_with fail
              go_ret
              exact ⟨rfl, HBW.out⟩
        · have hk1 : kc = 2 := by rw [hkn, HND.out, if_neg h6]
          have h6' : (op == 6) = false := beq_eq_false_iff_ne.2 h6
          have h6'' : (op != 6) = true := by simp [bne, h6']
          have hk' : (kc == 2) = true := by rw [hk1]; rfl
          have hk'' : (kc != 2) = false := by rw [hk1]; rfl
          clear hkn hk1 h6 HX2 HX3 HND
          go_wp2_with fail
          clear c0 c1 c2 c3
          go_loopw [4] (fun i wr => ∃ k : Nat, i = .int .i64 (k : Nat) ∧ k ≤ len2 ∧ Hid (Below v.heap.size v wr) ∧ Hid (∀ (j : Nat) x, j < k → terms[j]? = some x → fitT x = true)) (fun i _ => len2 - (intOf i).toNat)
          case atStart => exact ⟨0, rfl, Nat.zero_le _, HW1.out, fun j x h => by omega⟩
          case round =>
            clear HW1
            obtain ⟨k, rfl, hk, HB, HP⟩ := hrel
            obtain ⟨c0, c1, c2, c3, -, -, -, -⟩ := blk4 (BX.out.below HB.out)
            by_cases hlt : k < len2
            · obtain ⟨b3, o3, cop3, cnm3, cex3, cte3, ca3, clen3, ccap3, cb3, clen4, ccap4, rfl, -, -, hxe, j1, j2, hSc, hTc, v0, v1, v2, v3⟩ := (HST.out.kept (Kept.of_below HB.out [])).at k hlt
              have j1' : (k : Int) < (len2 : Int) := by omega
              have j0' : (0 : Int) ≤ (k : Int) := by omega
              have HC := Lib.hid (HI.out k _ hxe _ wr (RepT.mk' j1 j2 hSc hTc))
              have HNO := Lib.hid (HNT.out k _ hxe)
              have HXE : Hid (∀ x, terms[k]? = some x → x = Te.mk cop3 cnm3 cex3 cte3) := fun x hx => by rw [hxe] at hx; injection hx with hx; exact hx.symm
              clear hxe j1 j2 hSc hTc
              generalize Te.mk cop3 cnm3 cex3 cte3 = c at *
              go_wp2_with fail
              go_at_call 18
              (with_reducible refine HC.out.mono ?_)
              rintro y w2 ⟨rfl, b2⟩
              have HB2 := Lib.hid (HB.out.trans (b2.mono HB.out.size))
              clear b2 HC v0 v1 v2 v3 c0 c1 c2 c3 HB
              cases hf : fitT c
              · have hR : R = false := HNO.out hf
                have HBW := Lib.hid (HB0.out.trans (HB2.out.mono HB0.out.size))
                clear hf HNO HNT HY HI HP
                subst hR
                go_wp2_with fail
                go_ret
                exact ⟨rfl, HBW.out⟩
              · have FIN : Hid (∀ (j : Nat) x, j < k + 1 → terms[j]? = some x → fitT x = true) := fun j x hj hx => by
                  rcases Nat.eq_or_lt_of_le (Nat.le_of_lt_succ hj) with rfl | h
                  · rw [HXE.out x hx]; exact hf
                  · exact HP.out j x h hx
                clear hf HNO HP HXE
                go_wp2_with fail
                go_roundw
                case rel => exact ⟨k + 1, by go_num, by omega, HB2.out, FIN.out⟩
                case measure => simp [intOf]; omega
            · have hk9 : ¬ (k : Int) < (len2 : Int) := by omega
              have hR : R = true := HY.out HX.out (fun j x hx => HP.out j x (by have := (List.getElem?_eq_some_iff.1 hx).1; have := HL2.out; omega) hx)
              have HBW := Lib.hid (HB0.out.trans (HB.out.mono HB0.out.size))
              clear HNT HY HI HP HX HB
              subst hR
              go_wp2_with fail
              go_ret
              exact ⟨rfl, HBW.out⟩
      · have hR : R = false := HX3.out hkn
        by_cases h6 : op = 6
        · have hk1 : kc ≠ 1 := fun h => hkn (by rw [h, HND.out, if_pos h6])
          have h6' : (op == 6) = true := by rw [h6]; rfl
          have hk' : (kc == 1) = false := beq_eq_false_iff_ne.2 hk1
          have hk'' : (kc != 1) = true := by simp [bne, hk']
          have HBW := Lib.hid (HB0.out.trans (HW1.out.mono HB0.out.size))
          clear hkn hk1 h6 HX2 HX3 HND HI HY HNT
          subst hR
          go_wp2_with fail
          go_ret
          exact ⟨rfl, HBW.out⟩
        · have hk1 : kc ≠ 2 := fun h => hkn (by rw [h, HND.out, if_neg h6])
          have h6' : (op == 6) = false := beq_eq_false_iff_ne.2 h6
          have h6'' : (op != 6) = true := by simp [bne, h6']
          have hk' : (kc == 2) = false := beq_eq_false_iff_ne.2 hk1
          have hk'' : (kc != 2) = true := by simp [bne, hk']
          have HBW := Lib.hid (HB0.out.trans (HW1.out.mono HB0.out.size))
          clear hkn hk1 h6 HX2 HX3 HND HI HY HNT
          subst hR
          go_wp2_with fail
          go_ret
          exact ⟨rfl, HBW.out⟩
    · have hl' : ((len : Int) == 1) = false := beq_eq_false_iff_ne.2 (by omega)
      have HX : Hid (∀ (j : Nat) c, exprs[j]? = some c → kE c = nd) := fun j c hc => by
        have := (List.getElem?_eq_some_iff.1 hc).1; have := HL.out; omega
      have HW1 : Hid (Below v.heap.size v v) := Below.refl _ _
      clear HK HNX hl HND
      go_wp2_with fail
      clear c0 c1 c2 c3
      go_loopw [4] (fun i wr => ∃ k : Nat, i = .int .i64 (k : Nat) ∧ k ≤ len2 ∧ Hid (Below v.heap.size v wr) ∧ Hid (∀ (j : Nat) x, j < k → terms[j]? = some x → fitT x = true)) (fun i _ => len2 - (intOf i).toNat)
      case atStart => exact ⟨0, rfl, Nat.zero_le _, HW1.out, fun j x h => by omega⟩
      case round =>
        clear HW1
        obtain ⟨k, rfl, hk, HB, HP⟩ := hrel
        obtain ⟨c0, c1, c2, c3, -, -, -, -⟩ := blk4 (BX.out.below HB.out)
        by_cases hlt : k < len2
        · obtain ⟨b3, o3, cop3, cnm3, cex3, cte3, ca3, clen3, ccap3, cb3, clen4, ccap4, rfl, -, -, hxe, j1, j2, hSc, hTc, v0, v1, v2, v3⟩ := (HST.out.kept (Kept.of_below HB.out [])).at k hlt
          have j1' : (k : Int) < (len2 : Int) := by omega
          have j0' : (0 : Int) ≤ (k : Int) := by omega
          have HC := Lib.hid (HI.out k _ hxe _ wr (RepT.mk' j1 j2 hSc hTc))
          have HNO := Lib.hid (HNT.out k _ hxe)
          have HXE : Hid (∀ x, terms[k]? = some x → x = Te.mk cop3 cnm3 cex3 cte3) := fun x hx => by rw [hxe] at hx; injection hx with hx; exact hx.symm
          clear hxe j1 j2 hSc hTc
          generalize Te.mk cop3 cnm3 cex3 cte3 = c at *
          go_wp2_with fail
          go_at_call 18
          (with_reducible refine HC.out.mono ?_)
          rintro y w2 ⟨rfl, b2⟩
          have HB2 := Lib.hid (HB.out.trans (b2.mono HB.out.size))
          clear b2 HC v0 v1 v2 v3 c0 c1 c2 c3 HB
          cases hf : fitT c
          · have hR : R = false := HNO.out hf
            have HBW := Lib.hid (HB0.out.trans (HB2.out.mono HB0.out.size))
            clear hf HNO HNT HY HI HP
            subst hR
            go_wp2_with fail
            go_ret
            exact ⟨rfl, HBW.out⟩
          · have FIN : Hid (∀ (j : Nat) x, j < k + 1 → terms[j]? = some x → fitT x = true) := fun j x hj hx => by
              rcases Nat.eq_or_lt_of_le (Nat.le_of_lt_succ hj) with rfl | h
              · rw [HXE.out x hx]; exact hf
              · exact HP.out j x h hx
            clear hf HNO HP HXE
            go_wp2_with fail
            go_roundw
            case rel => exact ⟨k + 1, by go_num, by omega, HB2.out, FIN.out⟩
            case measure => simp [intOf]; omega
        · have hk9 : ¬ (k : Int) < (len2 : Int) := by omega
          have hR : R = true := HY.out HX.out (fun j x hx => HP.out j x (by have := (List.getElem?_eq_some_iff.1 hx).1; have := HL2.out; omega) hx)
          have HBW := Lib.hid (HB0.out.trans (HB.out.mono HB0.out.size))
          clear HNT HY HI HP HX HB
          subst hR
          go_wp2_with fail
          go_ret
          exact ⟨rfl, HBW.out⟩
end Go.Proofs.Ytmiinmndbkdjbaa
