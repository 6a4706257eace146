/- seen.expr: the observables of an expression come into the map; condition: not too many. -/
import Derived.Test.YtjpkljkmignnjaaSet
import Derived.Test.YtjpkljkmignnjaaReg
import Derived.Deep.DeepCutAuto
namespace Go.Proofs.Ytjpkljkmignnjaa
set_option linter.unusedVariables false
set_option linter.unusedSimpArgs false
open Go.RowKit
theorem blk4' {w : World} {g : Nat} {t : TypeId} {a b c d : Value} (h : Mem.Blk w g t #[a, b, c, d]) : w.cell? ⟨g, 0, none⟩ = some a ∧ w.cell? ⟨g, 1, none⟩ = some b ∧ w.cell? ⟨g, 2, none⟩ = some c ∧ w.cell? ⟨g, 3, none⟩ = some d ∧
    w.frozen? ⟨g, 0, none⟩ = false ∧ w.frozen? ⟨g, 1, none⟩ = false ∧ w.frozen? ⟨g, 2, none⟩ = false ∧ w.frozen? ⟨g, 3, none⟩ = false :=
  ⟨h.cell 0, h.cell 1, h.cell 2, h.cell 3, h.frozen 0, h.frozen 1, h.frozen 2, h.frozen 3⟩
theorem nd_take_le (l : List Ex) (k : Nat) : Ex.nd.go (l.take k) ≤ Ex.nd.go l := by
  induction l generalizing k with
  | nil => simp [Ex.nd.go]
  | cons x t ih =>
    cases k with
    | zero => simp [Ex.nd.go]
    | succ k => simp only [List.take_succ_cons, Ex.nd.go]; have := ih k; omega
set_option maxRecDepth 100000 in
set_option maxHeartbeats 2000000 in
theorem seenExpr_any : ∀ (r : Nat) (e : Ex), e.rk ≤ r → ∀ (cs : List Value) (w : World) (b1 b2 : Nat) (l1 l2 : List ByteArray) (n : Nat), RepE w [b1, b2] e cs → Two w b1 b2 l1 l2 n → n + e.nd ≤ 1000000 →
    Calls Try.prog 54 #[.agg #[.map (some b1), .map (some b2)], .agg cs.toArray] w fun x w' => x = .returned (.tuple #[]) ∧ Fr [b1, b2] w w' ∧ Two w' b1 b2 l1 (l2 ++ obsE e) (n + e.nd) := by
  intro r
  induction r with
  | zero => intro e h; have := e.rk_pos; omega
  | succ r ih =>
    intro e hr cs w b1 b2 l1 l2 n hR hT hn
    obtain ⟨op, no, nm, args, a, len, cap, rfl, rfl, i1, i2, i3, hS⟩ := hR.inv
    obtain ⟨f1, f2, f3⟩ := hS.facts
    have hb1 : b1 < w.heap.size := hT.one.lt
    have hb2 : b2 < w.heap.size := hT.two.lt
    have HI : Hid (∀ (k : Nat) e1, args[k]? = some e1 → ∀ cs1 W l n', RepE W [b1, b2] e1 cs1 → Two W b1 b2 l1 l n' → n' + e1.nd ≤ 1000000 →
        Calls Try.prog 54 #[.agg #[.map (some b1), .map (some b2)], .agg cs1.toArray] W fun x w' => x = .returned (.tuple #[]) ∧ Fr [b1, b2] W w' ∧ Two w' b1 b2 l1 (l ++ obsE e1) (n' + e1.nd)) := by
      intro k e1 hk cs1 W l n' hR1 hT1 hn1
      exact ih e1 (by have := Ex.rk_lt (op := op) (n := no) (nm := nm) hk; omega) cs1 W b1 b2 l1 l n' hR1 hT1 hn1
    have HFR := Lib.hid ((Fr.alloc w (.cells #[.map (some b1), .map (some b2)] 63) [b1, b2]).trans (Fr.alloc _ (.cells #[.int .i64 op, .int .i64 no, .string nm, .slice a len cap] 38) _))
    have HT0 := Lib.hid ((hT.alloc (.cells #[.map (some b1), .map (some b2)] 63)).alloc (.cells #[.int .i64 op, .int .i64 no, .string nm, .slice a len cap] 38))
    have BX := Lib.hid ((Mem.Blk.new w 63 #[.map (some b1), .map (some b2)]).alloc (.cells #[.int .i64 op, .int .i64 no, .string nm, .slice a len cap] 38))
    have BY := Lib.hid (Mem.Blk.new (w.alloc (.cells #[.map (some b1), .map (some b2)] 63)) 38 #[.int .i64 op, .int .i64 no, .string nm, .slice a len cap])
    rw [show (w.alloc (.cells #[.map (some b1), .map (some b2)] 63)).heap.size = w.heap.size + 1 by simp] at BY
    have HSS := Lib.hid hS
    have HL := Lib.hid f1
    have hnd : n + 1 + Ex.nd.go args ≤ 1000000 := by simp only [Ex.nd] at hn; omega
    have HND := Lib.hid hnd
    have HOE : Hid (obsE (.mk op no nm args) = (if op = 3 then [nm] else []) ++ obsE.go args) := by show _ = _; rfl
    have HNE : Hid ((Ex.mk op no nm args).nd = 1 + Ex.nd.go args) := by show _ = _; simp only [Ex.nd]
    have HBB : Hid (b1 ≠ w.heap.size ∧ b2 ≠ w.heap.size ∧ b1 ≠ w.heap.size + 1 ∧ b2 ≠ w.heap.size + 1) := by refine ⟨?_, ?_, ?_, ?_⟩ <;> omega
    have HNB : Hid (w.heap.size ∉ [b1, b2] ∧ w.heap.size + 1 ∉ [b1, b2]) := by constructor <;> simp <;> omega
    have hkey : keyOf Try.prog 9 (.string nm) = some (nmL nm) := Go.WideMaps.keyOf_string_mk Try.underlying9 i3
    have HKEY := Lib.hid hkey
    rw [HOE.out, HNE.out]
    clear ih hr hR hS hT f1 hn hnd i1 i2 i3 hkey hb1 hb2 HOE HNE
    by_cases ho : op = 3
    · subst ho
      rw [if_pos rfl]
      go_enter Try.func54, Try.ntmps54
      go_upto_region 1 with (fail)
      generalize (w.alloc (.cells #[.map (some b1), .map (some b2)] 63)).alloc (.cells #[.int .i64 3, .int .i64 no, .string nm, .slice a len cap] 38) = w0 at *
      have s0 : w0.cell? ⟨w.heap.size, 0, none⟩ = some (.map (some b1)) := BX.out.cell 0
      have s1 : w0.cell? ⟨w.heap.size, 1, none⟩ = some (.map (some b2)) := BX.out.cell 1
      have c0 : w0.cell? ⟨w.heap.size + 1, 0, none⟩ = some (.int .i64 3) := BY.out.cell 0
      have c2 : w0.cell? ⟨w.heap.size + 1, 2, none⟩ = some (.string nm) := BY.out.cell 2
      have c3 : w0.cell? ⟨w.heap.size + 1, 3, none⟩ = some (.slice a len cap) := BY.out.cell 3
      go_upto_region 3 with (at_mapUpdate; refine wpList_mapUpdate_own _ rfl _ _ _ 61 rfl 9 4 (Maps.string_keyed Try.underlying9) Try.underlying61 _ b2 n _ rfl HT0.out.two (by have := HND.out; unfold maxLen; omega) _ _ _ rfl rfl HKEY.out _ [] (plainElem_bool Try.underlying4 _) ?_; intro w1 hown1 hgrow1; have G1 := Lib.hid hgrow1; have O1 := Lib.hid hown1; clear hgrow1 hown1)
      have hf1 := Fr.of_grown (X := [b1, b2]) G1.out (by simp)
      have HF1 := Lib.hid (HFR.out.trans hf1)
      have HT1 : Hid (Two w1 b1 b2 l1 (l2 ++ [nm]) (n + 1)) := by
        have f2 := Fr.of_grown (X := [b2]) G1.out (by simp)
        have o := O1.out
        rw [setD_snoc] at o
        exact ⟨(f2.map HT0.out.one (by simpa using HT0.out.ne)).mono (by omega), o, HT0.out.ne⟩
      have BX1 := Lib.hid (hf1.blk BX.out HNB.out.1)
      have BY1 := Lib.hid (hf1.blk BY.out HNB.out.2)
      clear hf1 G1 O1 s0 s1 c0 c2 c3 HFR HT0 BX BY
      have c3 : w1.cell? ⟨w.heap.size + 1, 3, none⟩ = some (.slice a len cap) := BY1.out.cell 3
      go_wp2_with fail
      go_loopw [16] (fun i wr => ∃ (k : Nat), i = .int .i64 (k : Nat) ∧ k ≤ len ∧ Hid (Fr [b1, b2] w wr ∧ Mem.Blk wr w.heap.size 63 #[.map (some b1), .map (some b2)] ∧ Two wr b1 b2 l1 (l2 ++ [nm] ++ obsE.go (args.take k)) (n + 1 + Ex.nd.go (args.take k)))) (fun i _ => len - (intOf i).toNat)
      case atStart => exact ⟨0, rfl, Nat.zero_le _, HF1.out, BX1.out, by simpa [obsE.go, Ex.nd.go] using HT1.out⟩
      case round =>
        clear HF1 BX1 HT1 BY1 c3
        obtain ⟨k, rfl, hk, HR⟩ := hrel
        by_cases hlt : k < len
        · obtain ⟨b, o, cop, cn, cnm, cargs, ca, clen, ccap, rfl, -, -, hxe, j1, j2, j3, hSc, v0, v1, v2, v3⟩ := (HSS.out.kept HR.out.1.kept).at k hlt
          have j1' : (k : Int) < (len : Int) := by omega
          have j0' : (0 : Int) ≤ (k : Int) := by omega
          have HXE := Lib.hid hxe
          have HSC := Lib.hid (RepE.mk' j1 j2 j3 hSc)
          clear hxe j1 j2 j3 hSc
          go_upto_region 6 with (fail)
          have hfa := Fr.alloc wr (.cells #[.int .i64 cop, .int .i64 cn, .string cnm, .slice ca clen ccap] 38) [b1, b2]
          have BV := Lib.hid (Mem.Blk.new wr 38 #[.int .i64 cop, .int .i64 cn, .string cnm, .slice ca clen ccap])
          have HV : Hid (Fr [b1, b2] w _ ∧ Mem.Blk _ w.heap.size 63 _ ∧ Two _ b1 b2 l1 _ _) := ⟨HR.out.1.trans hfa, hfa.blk HR.out.2.1 HNB.out.1, HR.out.2.2.alloc (.cells #[.int .i64 cop, .int .i64 cn, .string cnm, .slice ca clen ccap] 38)⟩
          have HSV := Lib.hid (HSC.out.kept hfa.kept)
          clear hfa HR HSC v0 v1 v2 v3
          generalize wr.alloc (.cells #[.int .i64 cop, .int .i64 cn, .string cnm, .slice ca clen ccap] 38) = v at *
          generalize wr.heap.size = z at *
          have q0 : v.cell? ⟨w.heap.size, 0, none⟩ = some (.map (some b1)) := HV.out.2.1.cell 0
          have q1 : v.cell? ⟨w.heap.size, 1, none⟩ = some (.map (some b2)) := HV.out.2.1.cell 1
          obtain ⟨u0, u1, u2, u3, -, -, -, -⟩ := blk4' BV.out
          have hnk := Ex.nd_take HXE.out
          have hle : Ex.nd.go (args.take (k + 1)) ≤ Ex.nd.go args := nd_take_le args (k + 1)
          have HC := Lib.hid (HI.out k _ HXE.out _ v _ _ HSV.out HV.out.2.2 (by have := HND.out; omega))
          have HNK := Lib.hid hnk
          clear hnk hle
          go_wp2_with fail
          go_at_call 54
          (with_reducible refine HC.out.mono ?_)
          rintro y w2 ⟨rfl, f2, t2⟩
          have FIN : Hid (Fr [b1, b2] w w2 ∧ Mem.Blk w2 w.heap.size 63 #[.map (some b1), .map (some b2)] ∧ Two w2 b1 b2 l1 (l2 ++ [nm] ++ obsE.go (args.take (k + 1))) (n + 1 + Ex.nd.go (args.take (k + 1)))) := by
            refine ⟨HV.out.1.trans f2, f2.blk HV.out.2.1 HNB.out.1, ?_⟩
            rw [obs_take HXE.out, HNK.out, ← List.append_assoc, ← Nat.add_assoc]
            exact t2
          clear f2 t2 HC HV HSV BV u0 u1 u2 u3 q0 q1
          go_wp2_with fail
          go_roundw
          case rel => exact ⟨k + 1, by go_num, by omega, FIN.out⟩
          case measure => simp [intOf]; omega
        · have hk' : ¬ (k : Int) < (len : Int) := by omega
          have FIN : Hid (Fr [b1, b2] w wr ∧ Two wr b1 b2 l1 (l2 ++ ([nm] ++ obsE.go args)) (n + (1 + Ex.nd.go args))) := by
            have h := HR.out
            rw [List.take_of_length_le (by rw [HL.out]; omega)] at h
            refine ⟨h.1, ?_⟩
            rw [← List.append_assoc, ← Nat.add_assoc]
            exact h.2.2
          clear HR
          go_wp2_with fail
          go_end0
          exact ⟨rfl, FIN.out⟩
    · have ho' : (op == 3) = false := beq_eq_false_iff_ne.2 ho
      rw [if_neg ho]
      go_enter Try.func54, Try.ntmps54
      go_upto_region 1 with (fail)
      generalize (w.alloc (.cells #[.map (some b1), .map (some b2)] 63)).alloc (.cells #[.int .i64 op, .int .i64 no, .string nm, .slice a len cap] 38) = w0 at *
      have s0 : w0.cell? ⟨w.heap.size, 0, none⟩ = some (.map (some b1)) := BX.out.cell 0
      have s1 : w0.cell? ⟨w.heap.size, 1, none⟩ = some (.map (some b2)) := BX.out.cell 1
      have c0 : w0.cell? ⟨w.heap.size + 1, 0, none⟩ = some (.int .i64 op) := BY.out.cell 0
      have c2 : w0.cell? ⟨w.heap.size + 1, 2, none⟩ = some (.string nm) := BY.out.cell 2
      have c3 : w0.cell? ⟨w.heap.size + 1, 3, none⟩ = some (.slice a len cap) := BY.out.cell 3
      go_upto_region 3 with (fail)
      have HF1 := HFR
      have HT1 : Hid (Two w0 b1 b2 l1 (l2 ++ []) (n + 1)) := by show Two _ _ _ _ _ _; rw [List.append_nil]; exact HT0.out.mono (by omega)
      have BX1 := BX
      have BY1 := BY
      obtain ⟨w1, rfl⟩ : ∃ W : World, W = w0 := ⟨_, rfl⟩
      clear s0 s1 c0 c2 HFR HT0 BX BY
      go_wp2_with fail
      go_loopw [16] (fun i wr => ∃ (k : Nat), i = .int .i64 (k : Nat) ∧ k ≤ len ∧ Hid (Fr [b1, b2] w wr ∧ Mem.Blk wr w.heap.size 63 #[.map (some b1), .map (some b2)] ∧ Two wr b1 b2 l1 (l2 ++ [] ++ obsE.go (args.take k)) (n + 1 + Ex.nd.go (args.take k)))) (fun i _ => len - (intOf i).toNat)
      case atStart => exact ⟨0, rfl, Nat.zero_le _, HF1.out, BX1.out, by simpa [obsE.go, Ex.nd.go] using HT1.out⟩
      case round =>
        clear HF1 BX1 HT1 BY1 c3
        obtain ⟨k, rfl, hk, HR⟩ := hrel
        by_cases hlt : k < len
        · obtain ⟨b, o, cop, cn, cnm, cargs, ca, clen, ccap, rfl, -, -, hxe, j1, j2, j3, hSc, v0, v1, v2, v3⟩ := (HSS.out.kept HR.out.1.kept).at k hlt
          have j1' : (k : Int) < (len : Int) := by omega
          have j0' : (0 : Int) ≤ (k : Int) := by omega
          have HXE := Lib.hid hxe
          have HSC := Lib.hid (RepE.mk' j1 j2 j3 hSc)
          clear hxe j1 j2 j3 hSc
          go_upto_region 6 with (fail)
          have hfa := Fr.alloc wr (.cells #[.int .i64 cop, .int .i64 cn, .string cnm, .slice ca clen ccap] 38) [b1, b2]
          have BV := Lib.hid (Mem.Blk.new wr 38 #[.int .i64 cop, .int .i64 cn, .string cnm, .slice ca clen ccap])
          have HV : Hid (Fr [b1, b2] w _ ∧ Mem.Blk _ w.heap.size 63 _ ∧ Two _ b1 b2 l1 _ _) := ⟨HR.out.1.trans hfa, hfa.blk HR.out.2.1 HNB.out.1, HR.out.2.2.alloc (.cells #[.int .i64 cop, .int .i64 cn, .string cnm, .slice ca clen ccap] 38)⟩
          have HSV := Lib.hid (HSC.out.kept hfa.kept)
          clear hfa HR HSC v0 v1 v2 v3
          generalize wr.alloc (.cells #[.int .i64 cop, .int .i64 cn, .string cnm, .slice ca clen ccap] 38) = v at *
          generalize wr.heap.size = z at *
          have q0 : v.cell? ⟨w.heap.size, 0, none⟩ = some (.map (some b1)) := HV.out.2.1.cell 0
          have q1 : v.cell? ⟨w.heap.size, 1, none⟩ = some (.map (some b2)) := HV.out.2.1.cell 1
          obtain ⟨u0, u1, u2, u3, -, -, -, -⟩ := blk4' BV.out
          have hnk := Ex.nd_take HXE.out
          have hle : Ex.nd.go (args.take (k + 1)) ≤ Ex.nd.go args := nd_take_le args (k + 1)
          have HC := Lib.hid (HI.out k _ HXE.out _ v _ _ HSV.out HV.out.2.2 (by have := HND.out; omega))
          have HNK := Lib.hid hnk
          clear hnk hle
          go_wp2_with fail
          go_at_call 54
          (with_reducible refine HC.out.mono ?_)
          rintro y w2 ⟨rfl, f2, t2⟩
          have FIN : Hid (Fr [b1, b2] w w2 ∧ Mem.Blk w2 w.heap.size 63 #[.map (some b1), .map (some b2)] ∧ Two w2 b1 b2 l1 (l2 ++ [] ++ obsE.go (args.take (k + 1))) (n + 1 + Ex.nd.go (args.take (k + 1)))) := by
            refine ⟨HV.out.1.trans f2, f2.blk HV.out.2.1 HNB.out.1, ?_⟩
            rw [obs_take HXE.out, HNK.out, ← List.append_assoc, ← Nat.add_assoc]
            exact t2
          clear f2 t2 HC HV HSV BV u0 u1 u2 u3 q0 q1
          go_wp2_with fail
          go_roundw
          case rel => exact ⟨k + 1, by go_num, by omega, FIN.out⟩
          case measure => simp [intOf]; omega
        · have hk' : ¬ (k : Int) < (len : Int) := by omega
          have FIN : Hid (Fr [b1, b2] w wr ∧ Two wr b1 b2 l1 (l2 ++ ([] ++ obsE.go args)) (n + (1 + Ex.nd.go args))) := by
            have h := HR.out
            rw [List.take_of_length_le (by rw [HL.out]; omega)] at h
            refine ⟨h.1, ?_⟩
            rw [← List.append_assoc, ← Nat.add_assoc]
            exact h.2.2
          clear HR
          go_wp2_with fail
          go_end0
          exact ⟨rfl, FIN.out⟩
end Go.Proofs.Ytjpkljkmignnjaa
