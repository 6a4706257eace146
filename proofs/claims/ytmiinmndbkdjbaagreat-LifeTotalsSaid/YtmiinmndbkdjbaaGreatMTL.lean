/- A part of the proof: LiR, LiA, one behind another. -/
import Derived.Test.YtmiinmndbkdjbaaGreatMTA
import Derived.Test.YtmiinmndbkdjbaaGreatMTB
import Derived.Test.YtmiinmndbkdjbaaGreatMTC
import Derived.Test.YtmiinmndbkdjbaaGreatMTD
import Derived.Test.YtmiinmndbkdjbaaGreatMTE
import Derived.Test.YtmiinmndbkdjbaaGreatMTF
import Derived.Test.YtmiinmndbkdjbaaGreatMTG
import Derived.Test.YtmiinmndbkdjbaaGreatMTH
import Derived.Test.YtmiinmndbkdjbaaGreatMTI
import Derived.Test.YtmiinmndbkdjbaaGreatMTJ
import Derived.Test.YtmiinmndbkdjbaaGreatMTK
/- The contract of life.Right. -/
namespace Go.Proofs.YtmiinmndbkdjbaaGreat
set_option linter.unusedVariables false
set_option linter.unusedSimpArgs false
open Go.RowKit
def lastB (op : Int) : Bool := decide (op = 5 ∨ op = 6 ∨ op = 7 ∨ op = 9)
def partB (p : Prt) : Bool := lastB p.term.op && decide (fitC p.term = 0) && decide (p.til.length ≤ 16) && !(p.til.any fun e => kI e != 2)
def rightP (l : List Prt) : Bool := l.all partB && decide (ndL l ≤ 200)
theorem pt_at {w : World} {X : List Nat} {l : List Prt} {a : Option Addr} {len cap : Nat} (h : SlR ptK w X l a len cap) (k : Nat) (hk : k < len) :
    ∃ b o p ua uc op nm xa xl xc ta tl tc, a = some ⟨b, o, none⟩ ∧ b < w.heap.size ∧ b ∉ X ∧ l[k]? = some p ∧ op = p.term.op ∧ I64 p.factor ∧ SlR exK w X p.til ua p.til.length uc ∧ RepT w X p.term [.int .i64 op, .string nm, .slice xa xl xc, .slice ta tl tc] ∧
      w.cell? ⟨b, o + k * 7, none⟩ = some (.int .i64 p.factor) ∧ w.cell? ⟨b, o + k * 7 + 1, none⟩ = some (.bool p.turned) ∧ w.cell? ⟨b, o + k * 7 + 2, none⟩ = some (.slice ua p.til.length uc) ∧ w.cell? ⟨b, o + k * 7 + 3, none⟩ = some (.int .i64 op) ∧ w.cell? ⟨b, o + k * 7 + 4, none⟩ = some (.string nm) ∧ w.cell? ⟨b, o + k * 7 + 5, none⟩ = some (.slice xa xl xc) ∧ w.cell? ⟨b, o + k * 7 + 6, none⟩ = some (.slice ta tl tc) := by
  obtain ⟨b, o, p, cs, ha, hb, hX, hp, hR, -, hc⟩ := h.at k hk
  have hR' : ∃ a cap ct, cs = .int .i64 p.factor :: .bool p.turned :: .slice a p.til.length cap :: ct ∧ I64 p.factor ∧ SlR exK w X p.til a p.til.length cap ∧ RepT w X p.term ct := hR
  obtain ⟨ua, uc, ct, e, h1, h2, h3⟩ := hR'
  obtain ⟨op, nm, exprs, terms, xa, xl, xc, ta, tl, tc, e1, e2, -, -, -, -⟩ := h3.inv
  subst e2
  subst e
  exact ⟨b, o, p, ua, uc, op, nm, xa, xl, xc, ta, tl, tc, ha, hb, hX, hp, by rw [e1]; rfl, h1, h2, h3, hc 0 _ rfl, hc 1 _ rfl, hc 2 _ rfl, hc 3 _ rfl, hc 4 _ rfl, hc 5 _ rfl, hc 6 _ rfl⟩
set_option maxRecDepth 100000 in
set_option maxHeartbeats 4000000 in
theorem lasting_any (op : Int) (nm : ByteArray) (xa ta : Option Addr) (xl xc tl tc : Nat) (w : World) :
    Calls Tryz.prog 64 #[.agg #[.int .i64 op, .string nm, .slice xa xl xc, .slice ta tl tc]] w fun x w' => x = .returned (.bool (lastB op)) ∧ Below w.heap.size w w' := by
  have HB := Lib.hid (below_nT w (.cells #[.int .i64 op, .string nm, .slice xa xl xc, .slice ta tl tc] 41))
  have B1 := Lib.hid (Mem.Blk.new w 41 #[.int .i64 op, .string nm, .slice xa xl xc, .slice ta tl tc])
  by_cases h6 : op = 6
  · subst h6
    go_enter Tryz.func64, Tryz.ntmps64
    go_upto_region 1 with (fail)
    generalize w.alloc (.cells _ 41) = w1 at *
    obtain ⟨c0, c1, c2, c3, -, -, -, -⟩ := blk4 B1.out
    go_wp2_with fail
    go_ret
    exact ⟨rfl, HB.out⟩
  by_cases h7 : op = 7
  · subst h7
    go_enter Tryz.func64, Tryz.ntmps64
    go_upto_region 1 with (fail)
    generalize w.alloc (.cells _ 41) = w1 at *
    obtain ⟨c0, c1, c2, c3, -, -, -, -⟩ := blk4 B1.out
    go_wp2_with fail
    go_ret
    exact ⟨rfl, HB.out⟩
  by_cases h5 : op = 5
  · subst h5
    go_enter Tryz.func64, Tryz.ntmps64
    go_upto_region 1 with (fail)
    generalize w.alloc (.cells _ 41) = w1 at *
    obtain ⟨c0, c1, c2, c3, -, -, -, -⟩ := blk4 B1.out
    go_wp2_with fail
    go_ret
    exact ⟨rfl, HB.out⟩
  by_cases h9 : op = 9
  · subst h9
    go_enter Tryz.func64, Tryz.ntmps64
    go_upto_region 1 with (fail)
    generalize w.alloc (.cells _ 41) = w1 at *
    obtain ⟨c0, c1, c2, c3, -, -, -, -⟩ := blk4 B1.out
    go_wp2_with fail
    go_ret
    exact ⟨rfl, HB.out⟩
  have hL : lastB op = false := by unfold lastB; rw [decide_eq_false_iff_not]; omega
  rw [hL]
  have b6 : (op == 6) = false := beq_eq_false_iff_ne.2 h6
  have b7 : (op == 7) = false := beq_eq_false_iff_ne.2 h7
  have b5 : (op == 5) = false := beq_eq_false_iff_ne.2 h5
  have b9 : (op == 9) = false := beq_eq_false_iff_ne.2 h9
  clear hL
  go_enter Tryz.func64, Tryz.ntmps64
  go_upto_region 1 with (fail)
  generalize w.alloc (.cells _ 41) = w1 at *
  obtain ⟨c0, c1, c2, c3, -, -, -, -⟩ := blk4 B1.out
  go_wp2_with fail
  go_ret
  exact ⟨rfl, HB.out⟩
set_option maxRecDepth 100000 in
set_option maxHeartbeats 4000000 in
theorem odd_any (e : Ex) (cs : List Value) (w : World) (hR : RepE w [] e cs) (hk : e.rk ≤ 1000) :
    Calls Tryz.prog 62 #[.agg cs.toArray] w fun x w' => x = .returned (.bool (kI e != 2)) ∧ Below w.heap.size w w' := by
  have HQ := Lib.hid (fun W (hW : Below w.heap.size w W) => kindX_any e cs W (hR.kept (Kept.of_below hW [])) hk)
  obtain ⟨op, no, nm, args, a, len, cap, e1, rfl, -, -, -, -⟩ := hR.inv
  have HB := Lib.hid (below_nT w (.cells #[.int .i64 op, .int .i64 no, .string nm, .slice a len cap] 74))
  have B1 := Lib.hid (Mem.Blk.new w 74 #[.int .i64 op, .int .i64 no, .string nm, .slice a len cap])
  generalize kI e = K at *
  clear e1 hR hk
  go_enter Tryz.func62, Tryz.ntmps62
  go_upto_region 1 with (fail)
  generalize w.alloc (.cells #[.int .i64 op, .int .i64 no, .string nm, .slice a len cap] 74) = w1 at *
  obtain ⟨c0, c1, c2, c3, -, -, -, -⟩ := blk4 B1.out
  go_wp2_with fail
  go_at_call 63
  (with_reducible refine (HQ.out _ HB.out).mono ?_)
  rintro y w2 ⟨rfl, b2⟩
  have HB2 := Lib.hid (HB.out.trans (b2.mono HB.out.size))
  clear b2 HB HQ
  go_wp2_with fail
  go_ret
  exact ⟨rfl, HB2.out⟩
theorem ndL_take {l : List Prt} {k : Nat} {p : Prt} (h : l[k]? = some p) : l.take (k + 1) = l.take k ++ [p] ∧ ndL (l.take (k + 1)) = ndL (l.take k) + p.term.nd := by
  obtain ⟨hk, e⟩ := List.getElem?_eq_some_iff.1 h
  have e2 : l.take (k + 1) = l.take k ++ [p] := by rw [← e]; exact (List.take_append_getElem hk).symm
  exact ⟨e2, by rw [e2, ndL_append]; simp [ndL]⟩
theorem ndL_le (l : List Prt) (k : Nat) : ndL (l.take k) ≤ ndL l := by
  conv => rhs; rw [← List.take_append_drop k l]
  rw [ndL_append]; omega
theorem rightP_no {l : List Prt} {k : Nat} {p : Prt} (h : l[k]? = some p) (hp : partB p = false) : rightP l = false := by
  unfold rightP
  have : l.all partB = false := by
    rw [Bool.eq_false_iff]; intro h1
    rw [List.all_eq_true.1 h1 p (List.mem_of_getElem? h)] at hp; cases hp
  rw [this]; rfl
theorem rightP_big {l : List Prt} {k : Nat} (h : 200 < ndL (l.take k)) : rightP l = false := by
  unfold rightP
  have := ndL_le l k
  rw [decide_eq_false (by omega), Bool.and_false]
set_option maxRecDepth 100000 in
set_option maxHeartbeats 8000000 in
theorem rightL_any (l : List Prt) (a : Option Addr) (len cap : Nat) (w : World) (hS : SlR ptK w [] l a len cap) (hk : ∀ p ∈ l, p.term.rk < 1000 ∧ p.til.length ≤ 1000 ∧ ∀ e ∈ p.til, e.rk ≤ 1000) (hlen : len ≤ 1000) :
    Calls Tryz.prog 36 #[.slice a len cap] w fun x w' => x = .returned (.bool (rightP l)) ∧ Below w.heap.size w w' := by
  have HS := Lib.hid hS
  have HL := Lib.hid hS.facts.1
  have HK := Lib.hid hk
  have HLN := Lib.hid hlen
  obtain ⟨RP, hRP⟩ : ∃ R, R = rightP l := ⟨_, rfl⟩
  rw [← hRP]
  have HRP := Lib.hid hRP
  clear hS hk hlen hRP
  go_enter Tryz.func36, Tryz.ntmps36
  go_wp2_with fail
  go_loopw [4, 11] (fun v i wr => ∃ (k : Nat), v = .int .i64 ((ndL (l.take k) : Nat) : Int) ∧ i = .int .i64 (k : Nat) ∧ k ≤ len ∧ Hid (Below w.heap.size w wr) ∧ Hid ((l.take k).all partB = true ∧ ndL (l.take k) ≤ 200)) (fun _ i _ => len - (intOf i).toNat)
  case atStart => exact ⟨0, rfl, rfl, Nat.zero_le _, Below.refl _ _, rfl, by simp [ndL]⟩
  case round =>
    rename World => w3
    obtain ⟨k, rfl, rfl, hk, HB, HI⟩ := hrel
    by_cases hlt : k < len
    · have hlt' : (k : Int) < (len : Int) := by omega
      have k0 : (0 : Int) ≤ (k : Int) := by omega
      have k1 : (k : Int) ≤ 1000 := by have := HLN.out; omega
      obtain ⟨b, o, p, ua, uc, op, nm, xa, xl, xc, ta, tl, tc, ha, -, -, hp, hop, hf, hU, hT, u0, u1, u2, u3, u4, u5, u6⟩ := pt_at (HS.out.kept (Kept.of_below HB.out [])) k hlt
      obtain ⟨hk1, hk2, hk3⟩ := HK.out p (List.mem_of_getElem? hp)
      have HTK := Lib.hid (ndL_take hp)
      have HP := Lib.hid hp
      have HNO := Lib.hid (fun h => HRP.out.trans (rightP_no hp h))
      have HBIG := Lib.hid (fun h => HRP.out.trans (rightP_big (l := l) (k := k + 1) h))
      have HLT := Lib.hid hlt
      generalize p.factor = pf at *
      generalize p.turned = pt at *
      have bn := below_nT w3 (.cells #[.int .i64 pf, .bool pt, .slice ua p.til.length uc, .int .i64 op, .string nm, .slice xa xl xc, .slice ta tl tc] 88)
      have BX := Lib.hid (Mem.Blk.new w3 88 #[.int .i64 pf, .bool pt, .slice ua p.til.length uc, .int .i64 op, .string nm, .slice xa xl xc, .slice ta tl tc])
      have HB4 := Lib.hid (HB.out.trans (bn.mono HB.out.size))
      have hT4 := hT.kept (Kept.of_below bn [])
      have hU4 := hU.kept (Kept.of_below bn [])
      generalize hw4 : w3.alloc (.cells #[.int .i64 pf, .bool pt, .slice ua p.til.length uc, .int .i64 op, .string nm, .slice xa xl xc, .slice ta tl tc] 88) = w4 at *
      have HLS := Lib.hid (fun W => lasting_any op nm xa ta xl xc tl tc W)
      have HFT := Lib.hid (fun W (hW : Below w4.heap.size w4 W) => fitsX_any p.term _ W (hT4.kept (Kept.of_below hW [])) hk1)
      have HCT := Lib.hid (fun W (hW : Below w4.heap.size w4 W) => containsE_any 62 (fun e => kI e != 2) p.til ua p.til.length uc W (enters_of Tryz.func62 (by kernel_rfl) rfl) (hU4.kept (Kept.of_below hW [])).slE (fun j e cs W' he hR => odd_any e cs W' hR (hk3 e (List.mem_of_getElem? he))))
      have HSZ := Lib.hid (fun W (hW : Below w4.heap.size w4 W) => size_any p.term _ W (hT4.kept (Kept.of_below hW [])) hk1)
      have hpb : partB p = (lastB op && decide (fitC p.term = 0) && decide (p.til.length ≤ 16) && !(p.til.any fun e => kI e != 2)) := by rw [hop]; rfl
      have HPB := Lib.hid hpb
      have HFC : Hid (fitC p.term = 0 → p.term.nd ≤ 200) := fun h => by
        unfold fitC at h
        split at h
        · rename_i hr; exact (rT_get hr).1
        · cases h
      have H2 := Lib.hid hk2
      have HA := Lib.hid ha
      generalize p.til.any (fun e => kI e != 2) = OD at *
      generalize fitC p.term = FC at *
      generalize lastB op = LB at *
      generalize p.til.length = UL at *
      generalize p.term.nd = ND at *
      have HTK2 : Hid (ndL (l.take (k + 1)) = ndL (l.take k) + ND) := HTK.out.2
      have HAL : Hid (partB p = true → (l.take (k + 1)).all partB = true) := fun h => by
        rw [HTK.out.1, List.all_append, HI.out.1]
        simp [h]
      have HSUM := Lib.hid HI.out.2
      clear HTK HI hT hU hT4 hU4 hf hp hpb hk1 hk2 hk3 hop bn hlt
      generalize ndL (l.take k) = A at *
      subst ha
      go_upto_region 6 with (fail)
      clear hw4 u0 u1 u2 u3 u4 u5 u6
      obtain ⟨c0, c1, c2, c3, c4, c5, c6⟩ := blk7 BX.out
      go_wp2_with fail
      (with_reducible refine (HLS.out _).mono ?_)
      rintro y w5 ⟨rfl, b5⟩
      replace c0 := cell_up c0 b5
      replace c1 := cell_up c1 b5
      replace c2 := cell_up c2 b5
      replace c3 := cell_up c3 b5
      replace c4 := cell_up c4 b5
      replace c5 := cell_up c5 b5
      replace c6 := cell_up c6 b5
      clear HLS
      cases LB with
      | false =>
        have HF := Lib.hid (HNO.out (by rw [HPB.out]; rfl))
        go_wp2_with fail
        go_ret
        exact ⟨by rw [HF.out]; rfl, HB4.out.trans (b5.mono HB4.out.size)⟩
      | true =>
        go_wp2_with fail
        (with_reducible refine (HFT.out _ b5).mono ?_)
        rintro y w6 ⟨rfl, b6'⟩
        have b6 := b5.trans (b6'.mono b5.size)
        replace c0 := cell_up c0 b6'
        replace c1 := cell_up c1 b6'
        replace c2 := cell_up c2 b6'
        replace c3 := cell_up c3 b6'
        replace c4 := cell_up c4 b6'
        replace c5 := cell_up c5 b6'
        replace c6 := cell_up c6 b6'
        clear b5 b6' HFT
        by_cases hfc : FC = 0
        · have HFC0 := Lib.hid hfc
          have hn0 : (FC != 0) = false := by rw [hfc]; rfl
          clear hfc
          by_cases h16 : UL ≤ 16
          · have hu : ¬ (16 : Int) < (UL : Int) := by omega
            have H16 := Lib.hid h16
            clear h16
            go_wp2_with fail
            (with_reducible refine (HCT.out _ b6).mono ?_)
            rintro y w7 ⟨rfl, b7'⟩
            have b7 := b6.trans (b7'.mono b6.size)
            replace c0 := cell_up c0 b7'
            replace c1 := cell_up c1 b7'
            replace c2 := cell_up c2 b7'
            replace c3 := cell_up c3 b7'
            replace c4 := cell_up c4 b7'
            replace c5 := cell_up c5 b7'
            replace c6 := cell_up c6 b7'
            clear b6 b7' HCT
            cases OD with
            | true =>
              have HF := Lib.hid (HNO.out (by rw [HPB.out]; simp))
              go_wp2_with fail
              go_ret
              exact ⟨by rw [HF.out]; rfl, HB4.out.trans (b7.mono HB4.out.size)⟩
            | false =>
              have HPT := Lib.hid (HAL.out (by rw [HPB.out, HFC0.out, decide_eq_true H16.out]; rfl))
              have hnd := HFC.out HFC0.out
              have hnt : ND < 1000 := by omega
              rw [if_pos hnt, if_pos hnt] at HSZ
              clear hnt
              have HND := Lib.hid hnd
              clear hnd
              go_wp2_with fail
              (with_reducible refine (HSZ.out _ b7).mono ?_)
              rintro y w8 ⟨rfl, b8'⟩
              have b8 := b7.trans (b8'.mono b7.size)
              clear b7 b8' HSZ
              have s0 : (0 : Int) ≤ (A : Int) + (ND : Int) := by omega
              have s1 : (A : Int) + (ND : Int) ≤ 1000 := by have := HND.out; have := HSUM.out; omega
              have HB9 := Lib.hid (HB4.out.trans (b8.mono HB4.out.size))
              clear b8
              by_cases hbig : 200 < A + ND
              · have hb1 : (200 : Int) < (A : Int) + (ND : Int) := by omega
                have HF := Lib.hid (HBIG.out (by rw [HTK2.out]; exact hbig))
                clear hbig
                go_wp2_with fail
                go_ret
                exact ⟨by rw [HF.out]; rfl, HB9.out⟩
              · have hb1 : ¬ (200 : Int) < (A : Int) + (ND : Int) := by omega
                have HS9 : Hid (A + ND ≤ 200) := by show _ ≤ _; omega
                clear hbig
                go_wp2_with fail
                go_roundw
                case rel => exact ⟨k + 1, by rw [HTK2.out]; go_num, by go_num, by have := HLT.out; omega, HB9.out, HPT.out, by rw [HTK2.out]; exact HS9.out⟩
                case measure => simp [intOf]; have := HLT.out; omega
          · have hu : (16 : Int) < (UL : Int) := by omega
            have HF := Lib.hid (HNO.out (by rw [HPB.out, decide_eq_false h16]; simp))
            clear h16
            go_wp2_with fail
            go_ret
            exact ⟨by rw [HF.out]; rfl, HB4.out.trans (b6.mono HB4.out.size)⟩
        · have hn0 : (FC != 0) = true := bne_iff_ne.2 hfc
          have HF := Lib.hid (HNO.out (by rw [HPB.out, decide_eq_false hfc]; simp))
          clear hfc
          go_wp2_with fail
          go_ret
          exact ⟨by rw [HF.out]; rfl, HB4.out.trans (b6.mono HB4.out.size)⟩
    · have hlt' : ¬ (k : Int) < (len : Int) := by omega
      obtain rfl : k = len := by omega
      have e : l.take k = l := List.take_of_length_le (by rw [HL.out]; omega)
      rw [e] at HI ⊢
      have HF : Hid (RP = true) := by
        have h := HRP.out
        unfold rightP at h
        rw [HI.out.1, decide_eq_true HI.out.2] at h
        exact h
      clear hlt
      go_wp2_with fail
      go_ret
      exact ⟨by rw [HF.out]; rfl, HB.out⟩
end Go.Proofs.YtmiinmndbkdjbaaGreat

/- A Scale or a When that waits, or goes on (begun). -/
namespace Go.Proofs.YtmiinmndbkdjbaaGreat
set_option linter.unusedVariables false
set_option linter.unusedSimpArgs false
open Go.RowKit
/-- What acquiring a term does. -/
def AcqC (base rb : Nat) (day : Int) (fx : List Fx) (fa : Option Addr) (fl fc : Nat) (t : Te) : Prop :=
  ∀ (f : Int) (tn : Bool) (un : List Ex) (s : RS) (vP vF : Value) (ua : Option Addr) (uc : Nat) (cs : List Value) (w : World), I64 f → RunJ base rb day fx fa fl fc w s vP vF →
    RepT w (X3 rb vP vF) t cs → SlR exK w (X3 rb vP vF) un ua un.length uc → un.length + t.rk ≤ 1000 → s.ps.length + t.nd ≤ 100000 → s.fs.length + t.nd ≤ 100000 →
    Calls Tryz.prog 27 #[.pointer (some ⟨rb, 0, none⟩), .agg (.int .i64 f :: .bool tn :: .slice ua un.length uc :: cs).toArray] w fun x w' => x = .returned (.tuple #[]) ∧ ∃ vP' vF', RunTo base rb day fx fa fl fc w w' vP vF (acq day fx t f tn un s) vP' vF'
theorem ex_one {w : World} {X : List Nat} {l : List Ex} {e : Ex} {a : Option Addr} {len cap : Nat} (h : SlE w X l a len cap) (hl : l = [e]) : len = 1 ∧ ∃ b o op no nm aa al ac, a = some ⟨b, o, none⟩ ∧ b ∉ X ∧ RepE w X e [.int .i64 op, .int .i64 no, .string nm, .slice aa al ac] ∧ w.cell? ⟨b, o, none⟩ = some (.int .i64 op) ∧ w.cell? ⟨b, o + 1, none⟩ = some (.int .i64 no) ∧ w.cell? ⟨b, o + 2, none⟩ = some (.string nm) ∧ w.cell? ⟨b, o + 3, none⟩ = some (.slice aa al ac) := by
  have hlen : len = 1 := by have := h.slR.facts.1; rw [hl] at this; exact this.symm
  obtain ⟨b, o, x, cs, ha, -, hbX, hx, hRx, -, hc⟩ := h.slR.at 0 (by omega)
  rw [hl] at hx
  injection hx with hx
  subst hx
  have hR : RepE w X e cs := hRx
  obtain ⟨op, no, nm, args, aa, al, ac, -, e2, -, -, -, -⟩ := hR.inv
  subst e2
  have k : ∀ j, o + 0 * exK.sz + j = o + j := fun j => by omega
  exact ⟨hlen, b, o, op, no, nm, aa, al, ac, ha, hbX, hR, by rw [← Nat.add_zero o, ← k]; exact hc 0 _ rfl, by rw [← k]; exact hc 1 _ rfl, by rw [← k]; exact hc 2 _ rfl, by rw [← k]; exact hc 3 _ rfl⟩
theorem te_one {w : World} {X : List Nat} {l : List Te} {e : Te} {k : Nat} {a : Option Addr} {len cap : Nat} (h : SlT w X l a len cap) (hl : l[k]? = some e) : k < len ∧ ∃ b o op nm xa xl xc ta tl tc, a = some ⟨b, o, none⟩ ∧ b ∉ X ∧ RepT w X e [.int .i64 op, .string nm, .slice xa xl xc, .slice ta tl tc] ∧ w.cell? ⟨b, o + k * 4, none⟩ = some (.int .i64 op) ∧ w.cell? ⟨b, o + k * 4 + 1, none⟩ = some (.string nm) ∧ w.cell? ⟨b, o + k * 4 + 2, none⟩ = some (.slice xa xl xc) ∧ w.cell? ⟨b, o + k * 4 + 3, none⟩ = some (.slice ta tl tc) := by
  have h' : SlR teK w X l a len cap := h
  have hk : k < len := by have := h'.facts.1; have := (List.getElem?_eq_some_iff.1 hl).1; omega
  obtain ⟨b, o, x, cs, ha, -, hbX, hx, hRx, -, hc⟩ := h'.at k hk
  rw [hl] at hx
  injection hx with hx
  subst hx
  have hR : RepT w X e cs := hRx
  obtain ⟨op, nm, exprs, terms, xa, xl, xc, ta, tl, tc, -, e2, -, -, -, -⟩ := hR.inv
  subst e2
  exact ⟨hk, b, o, op, nm, xa, xl, xc, ta, tl, tc, ha, hbX, hR, hc 0 _ rfl, hc 1 _ rfl, hc 2 _ rfl, hc 3 _ rfl⟩
/-- What is read in a block that is not written. -/
theorem RunTo.of {base rb : Nat} {day : Int} {fx : List Fx} {fa : Option Addr} {fl fc : Nat} {w w' : World} {s s' : RS} {vP vF : Value} (hJ : RunJ base rb day fx fa fl fc w s vP vF) (h : Sep w' (famR base rb day fx fa fl fc s' vP vF)) (hf : Fr (X3 rb vP vF) w w') : RunTo base rb day fx fa fl fc w w' vP vF s' vP vF :=
  ⟨⟨h⟩, hf, fun b hb => ⟨.inl hb, Nat.lt_of_lt_of_le (hJ.lt b hb) hf.size⟩⟩
theorem Fr.setNew {X : List Nat} {w w' : World} (h : Fr X w w') {p : Addr} (hp : w.heap.size ≤ p.block) (v : Value) : Fr X w (w'.setCell p v) :=
  have b : Below w'.heap.size w' w' := Below.refl _ _
  have k : Fr [p.block] w' (w'.setCell p v) := Fr.setCell w' (by simp) v
  ⟨k.os.trans h.os, k.tape.trans h.tape, k.output.trans h.output, h.kept.setNew hp v⟩
theorem evalX_i64 {day : Int} {fx : List Fx} (hd : I64 day) (hf : ∀ f ∈ fx, I64 f.val) {w : World} {X : List Nat} {e : Ex} {cs : List Value} (h : RepE w X e cs) : I64 (evalX day fx e).N := by
  unfold evalX
  split
  · exact i64_0
  · exact eval_i64 hd hf e.rk e (Nat.le_refl _) (RepE.nums e.rk e (Nat.le_refl _) cs h)
theorem fit_i64 (z : Int) : I64 (fitN (fitI z)) := by
  have := i64_fit z
  cases h : fitI z with
  | none => exact i64_0
  | some v => exact this v h
section
variable {A : Te → Int → Bool → List Ex → RS → RS} {t : Te} {f : Int} {tn : Bool} {un : List Ex} {s : RS} {V : Vl} {n : Int}
theorem waitW_brk : waitW A .brk t f tn un s = { s with bad := true } := by unfold waitW; exact if_pos rfl
theorem waitW_mul (h : t.op = 6) : waitW A (.num n) t f tn un s = A (t0 t) (fitN (fitI (f * n))) tn un { s with bad := !(fitB (fitI (f * n))) } := by
  unfold waitW; rw [if_neg (by show ¬ ((1 : Int) = 3); omega), if_pos ⟨h, rfl⟩]; rfl
theorem waitW_when (h : t.op = 7) : waitW A (.tru true) t f tn un s = A (t0 t) f tn un s := by
  unfold waitW; rw [if_neg (by show ¬ ((2 : Int) = 3); omega), if_neg (by rintro ⟨h1, -⟩; omega), if_pos ⟨h, rfl⟩]
theorem waitW_part (h1 : V.K ≠ 3) (h2 : t.op = 6 → V.K ≠ 1) (h3 : t.op = 7 → V.B = false) : waitW A V t f tn un s = { s with ps := s.ps ++ [⟨f, tn, un, t⟩] } := by
  unfold waitW; rw [if_neg h1, if_neg (fun h => h2 h.1 h.2), if_neg (fun h => by rw [h3 h.1] at h; cases h.2)]
end
end Go.Proofs.YtmiinmndbkdjbaaGreat
