/- seen.term: the currencies and observables of a term come into the maps; condition: not too many. -/
import Derived.Test.YtjpkljkmignnjaaNamesE
namespace Go.Proofs.Ytjpkljkmignnjaa
set_option linter.unusedVariables false
set_option linter.unusedSimpArgs false
open Go.RowKit
theorem ndT_take_le (l : List Te) (k : Nat) : Te.nd.go (l.take k) ≤ Te.nd.go l := by
  induction l generalizing k with
  | nil => simp [Te.nd.go]
  | cons x t ih =>
    cases k with
    | zero => simp [Te.nd.go]
    | succ k => simp only [List.take_succ_cons, Te.nd.go]; have := ih k; omega
set_option maxRecDepth 100000 in
set_option maxHeartbeats 4000000 in
theorem seenTerm_any : ∀ (r : Nat) (e : Te), e.rk ≤ r → ∀ (cs : List Value) (w : World) (b1 b2 : Nat) (l1 l2 : List ByteArray) (n : Nat), RepT w [b1, b2] e cs → Two w b1 b2 l1 l2 n → n + e.nd ≤ 1000000 →
    Calls Try.prog 34 #[.agg #[.map (some b1), .map (some b2)], .agg cs.toArray] w fun x w' => x = .returned (.tuple #[]) ∧ Fr [b1, b2] w w' ∧ Two w' b1 b2 (l1 ++ coinsT e) (l2 ++ obsT e) (n + e.nd) := by
  intro r
  induction r with
  | zero => intro e h; have := e.rk_pos; omega
  | succ r ih =>
    intro e hr cs w b1 b2 l1 l2 n hR hT hn
    obtain ⟨op, nm, ex, te, a, len, cap, a2, len2, cap2, rfl, rfl, i1, i3, hS, hS2⟩ := hR.inv
    obtain ⟨f1, f2, f3⟩ := hS.facts
    obtain ⟨f4, f5, f6⟩ := hS2.facts
    have hb1 : b1 < w.heap.size := hT.one.lt
    have hb2 : b2 < w.heap.size := hT.two.lt
    have HI : Hid (∀ (k : Nat) e1, te[k]? = some e1 → ∀ cs1 W l l' n', RepT W [b1, b2] e1 cs1 → Two W b1 b2 l l' n' → n' + e1.nd ≤ 1000000 →
        Calls Try.prog 34 #[.agg #[.map (some b1), .map (some b2)], .agg cs1.toArray] W fun x w' => x = .returned (.tuple #[]) ∧ Fr [b1, b2] W w' ∧ Two w' b1 b2 (l ++ coinsT e1) (l' ++ obsT e1) (n' + e1.nd)) := by
      intro k e1 hk cs1 W l l' n' hR1 hT1 hn1
      exact ih e1 (by have := Te.rk_lt (op := op) (nm := nm) (x := ex) hk; omega) cs1 W b1 b2 l l' n' hR1 hT1 hn1
    have HFR := Lib.hid ((Fr.alloc w (.cells #[.map (some b1), .map (some b2)] 63) [b1, b2]).trans (Fr.alloc _ (.cells #[.int .i64 op, .string nm, .slice a len cap, .slice a2 len2 cap2] 33) _))
    have HT0 := Lib.hid ((hT.alloc (.cells #[.map (some b1), .map (some b2)] 63)).alloc (.cells #[.int .i64 op, .string nm, .slice a len cap, .slice a2 len2 cap2] 33))
    have BX := Lib.hid ((Mem.Blk.new w 63 #[.map (some b1), .map (some b2)]).alloc (.cells #[.int .i64 op, .string nm, .slice a len cap, .slice a2 len2 cap2] 33))
    have BY := Lib.hid (Mem.Blk.new (w.alloc (.cells #[.map (some b1), .map (some b2)] 63)) 33 #[.int .i64 op, .string nm, .slice a len cap, .slice a2 len2 cap2])
    rw [show (w.alloc (.cells #[.map (some b1), .map (some b2)] 63)).heap.size = w.heap.size + 1 by simp] at BY
    have HSS := Lib.hid hS
    have HSS2 := Lib.hid hS2
    have HL := Lib.hid f1
    have HL2 := Lib.hid f4
    have hnd : n + 1 + Ex.nd.go ex + Te.nd.go te ≤ 1000000 := by simp only [Te.nd] at hn; omega
    have HND := Lib.hid hnd
    have HOC : Hid (coinsT (.mk op nm ex te) = (if op = 2 then [nm] else []) ++ coinsT.go te) := by show _ = _; rfl
    have HOO : Hid (obsT (.mk op nm ex te) = obsE.go ex ++ obsT.go te) := by show _ = _; rfl
    have HNE : Hid ((Te.mk op nm ex te).nd = 1 + Ex.nd.go ex + Te.nd.go te) := by show _ = _; simp only [Te.nd]
    have HBB : Hid (b1 ≠ w.heap.size ∧ b2 ≠ w.heap.size ∧ b1 ≠ w.heap.size + 1 ∧ b2 ≠ w.heap.size + 1) := by refine ⟨?_, ?_, ?_, ?_⟩ <;> omega
    have HNB : Hid (w.heap.size ∉ [b1, b2] ∧ w.heap.size + 1 ∉ [b1, b2]) := by constructor <;> simp <;> omega
    have hkey : keyOf Try.prog 9 (.string nm) = some (nmL nm) := Go.WideMaps.keyOf_string_mk Try.underlying9 i3
    have HKEY := Lib.hid hkey
    rw [HOC.out, HOO.out, HNE.out]
    clear ih hr hR hS hS2 hT f1 f4 hn hnd i1 i3 hkey hb1 hb2 HOC HOO HNE
    by_cases ho : op = 2
    · subst ho
      rw [if_pos rfl]
      go_enter Try.func34, Try.ntmps34
      go_upto_region 1 with (fail)
      generalize (w.alloc (.cells #[.map (some b1), .map (some b2)] 63)).alloc (.cells #[.int .i64 2, .string nm, .slice a len cap, .slice a2 len2 cap2] 33) = w0 at *
      have s0 : w0.cell? ⟨w.heap.size, 0, none⟩ = some (.map (some b1)) := BX.out.cell 0
      have s1 : w0.cell? ⟨w.heap.size, 1, none⟩ = some (.map (some b2)) := BX.out.cell 1
      have c0 : w0.cell? ⟨w.heap.size + 1, 0, none⟩ = some (.int .i64 2) := BY.out.cell 0
      have c1 : w0.cell? ⟨w.heap.size + 1, 1, none⟩ = some (.string nm) := BY.out.cell 1
      have c2 : w0.cell? ⟨w.heap.size + 1, 2, none⟩ = some (.slice a len cap) := BY.out.cell 2
      have c3 : w0.cell? ⟨w.heap.size + 1, 3, none⟩ = some (.slice a2 len2 cap2) := BY.out.cell 3
      go_upto_region 3 with (at_mapUpdate; refine wpList_mapUpdate_own _ rfl _ _ _ 61 rfl 9 4 (Maps.string_keyed Try.underlying9) Try.underlying61 _ b1 n _ rfl HT0.out.one (by have := HND.out; unfold maxLen; omega) _ _ _ rfl rfl HKEY.out _ [] (plainElem_bool Try.underlying4 _) ?_; intro w1 hown1 hgrow1; have G1 := Lib.hid hgrow1; have O1 := Lib.hid hown1; clear hgrow1 hown1)
      have hf1 := Fr.of_grown (X := [b1, b2]) G1.out (by simp)
      have HF1 := Lib.hid (HFR.out.trans hf1)
      have HT1 : Hid (Two w1 b1 b2 (l1 ++ [nm]) l2 (n + 1)) := by
        have f2 := Fr.of_grown (X := [b1]) G1.out (by simp)
        have o := O1.out
        rw [setD_snoc] at o
        exact ⟨o, (f2.map HT0.out.two (by simpa using HT0.out.ne.symm)).mono (by omega), HT0.out.ne⟩
      have BX1 := Lib.hid (hf1.blk BX.out HNB.out.1)
      have BY1 := Lib.hid (hf1.blk BY.out HNB.out.2)
      clear hf1 G1 O1 s0 s1 c0 c1 c2 c3 HFR HT0 BX BY
      have c2 : w1.cell? ⟨w.heap.size + 1, 2, none⟩ = some (.slice a len cap) := BY1.out.cell 2
      go_wp2_with fail
      go_loopw [18] (fun i wr => ∃ (k : Nat), i = .int .i64 (k : Nat) ∧ k ≤ len ∧ Hid (Fr [b1, b2] w wr ∧ Mem.Blk wr w.heap.size 63 #[.map (some b1), .map (some b2)] ∧ Mem.Blk wr (w.heap.size + 1) 33 #[.int .i64 2, .string nm, .slice a len cap, .slice a2 len2 cap2] ∧ Two wr b1 b2 (l1 ++ [nm]) (l2 ++ obsE.go (ex.take k)) (n + 1 + Ex.nd.go (ex.take k)))) (fun i _ => len - (intOf i).toNat)
      case atStart => exact ⟨0, rfl, Nat.zero_le _, HF1.out, BX1.out, BY1.out, by simpa [obsE.go, Ex.nd.go] using HT1.out⟩
      case round =>
        clear HF1 BX1 HT1 BY1 c2
        obtain ⟨k, rfl, hk, HR⟩ := hrel
        by_cases hlt : k < len
        · obtain ⟨b, o, cop, cn, cnm, cargs, ca, clen, ccap, rfl, -, -, hxe, j1, j2, j3, hSc, v0, v1, v2, v3⟩ := (HSS.out.kept HR.out.1.kept).at k hlt
          have j1' : (k : Int) < (len : Int) := by omega
          have j0' : (0 : Int) ≤ (k : Int) := by omega
          have HXE := Lib.hid hxe
          have HSC := Lib.hid (RepE.mk' j1 j2 j3 hSc)
          clear hxe j1 j2 j3 hSc
          go_upto_region 6 with (fail)
          have hfa := Fr.alloc wr (.cells #[.int .i64 cop, .int .i64 cn, .string cnm, .slice ca clen ccap] 38) [b1, b2]
          have BV := Lib.hid (Mem.Blk.new wr 38 #[.int .i64 cop, .int .i64 cn, .string cnm, .slice ca clen ccap])
          have HV : Hid (Fr [b1, b2] w _ ∧ Mem.Blk _ w.heap.size 63 _ ∧ Mem.Blk _ (w.heap.size + 1) 33 #[.int .i64 2, .string nm, .slice (some ⟨b, o, none⟩) len cap, .slice a2 len2 cap2] ∧ Two _ b1 b2 _ _ _) := ⟨HR.out.1.trans hfa, hfa.blk HR.out.2.1 HNB.out.1, hfa.blk HR.out.2.2.1 HNB.out.2, HR.out.2.2.2.alloc (.cells #[.int .i64 cop, .int .i64 cn, .string cnm, .slice ca clen ccap] 38)⟩
          have HSV := Lib.hid (HSC.out.kept hfa.kept)
          clear hfa HR HSC v0 v1 v2 v3
          generalize wr.alloc (.cells #[.int .i64 cop, .int .i64 cn, .string cnm, .slice ca clen ccap] 38) = v at *
          generalize wr.heap.size = z at *
          have q0 : v.cell? ⟨w.heap.size, 0, none⟩ = some (.map (some b1)) := HV.out.2.1.cell 0
          have q1 : v.cell? ⟨w.heap.size, 1, none⟩ = some (.map (some b2)) := HV.out.2.1.cell 1
          obtain ⟨u0, u1, u2, u3, -, -, -, -⟩ := blk4' BV.out
          have hnk := Ex.nd_take HXE.out
          have hle : Ex.nd.go (ex.take (k + 1)) ≤ Ex.nd.go ex := nd_take_le ex (k + 1)
          have HC := Lib.hid (seenExpr_any _ _ (Nat.le_refl _) _ v b1 b2 _ _ _ HSV.out HV.out.2.2.2 (by have := HND.out; omega))
          have HNK := Lib.hid hnk
          clear hnk hle
          go_wp2_with fail
          go_at_call 54
          (with_reducible refine HC.out.mono ?_)
          rintro y w2 ⟨rfl, f2, t2⟩
          have FIN : Hid (Fr [b1, b2] w w2 ∧ Mem.Blk w2 w.heap.size 63 #[.map (some b1), .map (some b2)] ∧ Mem.Blk w2 (w.heap.size + 1) 33 #[.int .i64 2, .string nm, .slice (some ⟨b, o, none⟩) len cap, .slice a2 len2 cap2] ∧ Two w2 b1 b2 (l1 ++ [nm]) (l2 ++ obsE.go (ex.take (k + 1))) (n + 1 + Ex.nd.go (ex.take (k + 1)))) := by
            refine ⟨HV.out.1.trans f2, f2.blk HV.out.2.1 HNB.out.1, f2.blk HV.out.2.2.1 HNB.out.2, ?_⟩
            rw [obs_take HXE.out, HNK.out, ← List.append_assoc, ← Nat.add_assoc]
            exact t2
          clear f2 t2 HC HV HSV BV u0 u1 u2 u3 q0 q1
          go_wp2_with fail
          go_roundw
          case rel => exact ⟨k + 1, by go_num, by omega, FIN.out⟩
          case measure => simp [intOf]; omega
        · have hk' : ¬ (k : Int) < (len : Int) := by omega
          have HE : Hid (Fr [b1, b2] w wr ∧ Mem.Blk wr w.heap.size 63 #[.map (some b1), .map (some b2)] ∧ Two wr b1 b2 (l1 ++ [nm]) (l2 ++ obsE.go ex) (n + 1 + Ex.nd.go ex)) := by
            have h := HR.out
            rw [List.take_of_length_le (by rw [HL.out]; omega)] at h
            exact ⟨h.1, h.2.1, h.2.2.2⟩
          have c3 : wr.cell? ⟨w.heap.size + 1, 3, none⟩ = some (.slice a2 len2 cap2) := HR.out.2.2.1.cell 3
          clear HR
          obtain ⟨we, rfl⟩ : ∃ W : World, W = wr := ⟨_, rfl⟩
          go_wp2_with fail
          go_loopw [29] (fun i wr => ∃ (k : Nat), i = .int .i64 (k : Nat) ∧ k ≤ len2 ∧ Hid (Fr [b1, b2] w wr ∧ Mem.Blk wr w.heap.size 63 #[.map (some b1), .map (some b2)] ∧ Two wr b1 b2 (l1 ++ [nm] ++ coinsT.go (te.take k)) (l2 ++ obsE.go ex ++ obsT.go (te.take k)) (n + 1 + Ex.nd.go ex + Te.nd.go (te.take k)))) (fun i _ => len2 - (intOf i).toNat)
          case atStart => exact ⟨0, rfl, Nat.zero_le _, HE.out.1, HE.out.2.1, by simpa [coinsT.go, obsT.go, Te.nd.go] using HE.out.2.2⟩
          case round =>
            clear HE c3
            obtain ⟨q, rfl, hq, HR⟩ := hrel
            by_cases hlq : q < len2
            · obtain ⟨b, o, cop, cnm, cex, cte, ca, clen, ccap, da, dlen, dcap, rfl, -, -, hxe, j1, j3, hSc, hSd, v0, v1, v2, v3⟩ := (HSS2.out.kept HR.out.1.kept).at q hlq
              have j1' : (q : Int) < (len2 : Int) := by omega
              have j0' : (0 : Int) ≤ (q : Int) := by omega
              have HXE := Lib.hid hxe
              have HSC := Lib.hid (RepT.mk' j1 j3 hSc hSd)
              clear hxe j1 j3 hSc hSd
              go_upto_region 11 with (fail)
              have hfa := Fr.alloc wr (.cells #[.int .i64 cop, .string cnm, .slice ca clen ccap, .slice da dlen dcap] 33) [b1, b2]
              have BV := Lib.hid (Mem.Blk.new wr 33 #[.int .i64 cop, .string cnm, .slice ca clen ccap, .slice da dlen dcap])
              have HV : Hid (Fr [b1, b2] w _ ∧ Mem.Blk _ w.heap.size 63 _ ∧ Two _ b1 b2 _ _ _) := ⟨HR.out.1.trans hfa, hfa.blk HR.out.2.1 HNB.out.1, HR.out.2.2.alloc (.cells #[.int .i64 cop, .string cnm, .slice ca clen ccap, .slice da dlen dcap] 33)⟩
              have HSV := Lib.hid (RepT.kept HSC.out hfa.kept)
              clear hfa HR HSC v0 v1 v2 v3
              generalize wr.alloc (.cells #[.int .i64 cop, .string cnm, .slice ca clen ccap, .slice da dlen dcap] 33) = v at *
              generalize wr.heap.size = z at *
              have q0 : v.cell? ⟨w.heap.size, 0, none⟩ = some (.map (some b1)) := HV.out.2.1.cell 0
              have q1 : v.cell? ⟨w.heap.size, 1, none⟩ = some (.map (some b2)) := HV.out.2.1.cell 1
              obtain ⟨u0, u1, u2, u3, -, -, -, -⟩ := blk4' BV.out
              have hnk := Te.nd_take HXE.out
              have hle : Te.nd.go (te.take (q + 1)) ≤ Te.nd.go te := ndT_take_le te (q + 1)
              have HC := Lib.hid (HI.out q _ HXE.out _ v _ _ _ HSV.out HV.out.2.2 (by have := HND.out; omega))
              have HNK := Lib.hid hnk
              clear hnk hle
              go_wp2_with fail
              go_at_call 34
              (with_reducible refine HC.out.mono ?_)
              rintro y w2 ⟨rfl, f2, t2⟩
              have FIN : Hid (Fr [b1, b2] w w2 ∧ Mem.Blk w2 w.heap.size 63 #[.map (some b1), .map (some b2)] ∧ Two w2 b1 b2 (l1 ++ [nm] ++ coinsT.go (te.take (q + 1))) (l2 ++ obsE.go ex ++ obsT.go (te.take (q + 1))) (n + 1 + Ex.nd.go ex + Te.nd.go (te.take (q + 1)))) := by
                refine ⟨HV.out.1.trans f2, f2.blk HV.out.2.1 HNB.out.1, ?_⟩
                rw [coins_take HXE.out, obsT_take HXE.out, HNK.out, ← List.append_assoc (l1 ++ [nm]), ← List.append_assoc (l2 ++ obsE.go ex), ← Nat.add_assoc]
                exact t2
              clear f2 t2 HC HV HSV BV u0 u1 u2 u3 q0 q1
              go_wp2_with fail
              go_roundw
              case rel => exact ⟨q + 1, by go_num, by omega, FIN.out⟩
              case measure => simp [intOf]; omega
            · have hq' : ¬ (q : Int) < (len2 : Int) := by omega
              have FIN : Hid (Fr [b1, b2] w wr ∧ Two wr b1 b2 (l1 ++ ([nm] ++ coinsT.go te)) (l2 ++ (obsE.go ex ++ obsT.go te)) (n + (1 + Ex.nd.go ex + Te.nd.go te))) := by
                have h := HR.out
                rw [List.take_of_length_le (by rw [HL2.out]; omega)] at h
                refine ⟨h.1, ?_⟩
                rw [← List.append_assoc, ← List.append_assoc, ← Nat.add_assoc, ← Nat.add_assoc]
                exact h.2.2
              clear HR
              go_wp2_with fail
              go_end0
              exact ⟨rfl, FIN.out⟩
    · have ho' : (op == 2) = false := beq_eq_false_iff_ne.2 ho
      rw [if_neg ho]
      go_enter Try.func34, Try.ntmps34
      go_upto_region 1 with (fail)
      generalize (w.alloc (.cells #[.map (some b1), .map (some b2)] 63)).alloc (.cells #[.int .i64 op, .string nm, .slice a len cap, .slice a2 len2 cap2] 33) = w0 at *
      have s0 : w0.cell? ⟨w.heap.size, 0, none⟩ = some (.map (some b1)) := BX.out.cell 0
      have s1 : w0.cell? ⟨w.heap.size, 1, none⟩ = some (.map (some b2)) := BX.out.cell 1
      have c0 : w0.cell? ⟨w.heap.size + 1, 0, none⟩ = some (.int .i64 op) := BY.out.cell 0
      have c1 : w0.cell? ⟨w.heap.size + 1, 1, none⟩ = some (.string nm) := BY.out.cell 1
      have c2 : w0.cell? ⟨w.heap.size + 1, 2, none⟩ = some (.slice a len cap) := BY.out.cell 2
      have c3 : w0.cell? ⟨w.heap.size + 1, 3, none⟩ = some (.slice a2 len2 cap2) := BY.out.cell 3
      go_upto_region 3 with (fail)
      have HF1 := HFR
      have HT1 : Hid (Two w0 b1 b2 (l1 ++ []) l2 (n + 1)) := by show Two _ _ _ _ _ _; rw [List.append_nil]; exact HT0.out.mono (by omega)
      have BX1 := BX
      have BY1 := BY
      obtain ⟨w1, rfl⟩ : ∃ W : World, W = w0 := ⟨_, rfl⟩
      clear s0 s1 c0 c1 c3 HFR HT0 BX BY
      go_wp2_with fail
      go_loopw [18] (fun i wr => ∃ (k : Nat), i = .int .i64 (k : Nat) ∧ k ≤ len ∧ Hid (Fr [b1, b2] w wr ∧ Mem.Blk wr w.heap.size 63 #[.map (some b1), .map (some b2)] ∧ Mem.Blk wr (w.heap.size + 1) 33 #[.int .i64 op, .string nm, .slice a len cap, .slice a2 len2 cap2] ∧ Two wr b1 b2 (l1 ++ []) (l2 ++ obsE.go (ex.take k)) (n + 1 + Ex.nd.go (ex.take k)))) (fun i _ => len - (intOf i).toNat)
      case atStart => exact ⟨0, rfl, Nat.zero_le _, HF1.out, BX1.out, BY1.out, by simpa [obsE.go, Ex.nd.go] using HT1.out⟩
      case round =>
        clear HF1 BX1 HT1 BY1 c2
        obtain ⟨k, rfl, hk, HR⟩ := hrel
        by_cases hlt : k < len
        · obtain ⟨b, o, cop, cn, cnm, cargs, ca, clen, ccap, rfl, -, -, hxe, j1, j2, j3, hSc, v0, v1, v2, v3⟩ := (HSS.out.kept HR.out.1.kept).at k hlt
          have j1' : (k : Int) < (len : Int) := by omega
          have j0' : (0 : Int) ≤ (k : Int) := by omega
          have HXE := Lib.hid hxe
          have HSC := Lib.hid (RepE.mk' j1 j2 j3 hSc)
          clear hxe j1 j2 j3 hSc
          go_upto_region 6 with (fail)
          have hfa := Fr.alloc wr (.cells #[.int .i64 cop, .int .i64 cn, .string cnm, .slice ca clen ccap] 38) [b1, b2]
          have BV := Lib.hid (Mem.Blk.new wr 38 #[.int .i64 cop, .int .i64 cn, .string cnm, .slice ca clen ccap])
          have HV : Hid (Fr [b1, b2] w _ ∧ Mem.Blk _ w.heap.size 63 _ ∧ Mem.Blk _ (w.heap.size + 1) 33 #[.int .i64 op, .string nm, .slice (some ⟨b, o, none⟩) len cap, .slice a2 len2 cap2] ∧ Two _ b1 b2 _ _ _) := ⟨HR.out.1.trans hfa, hfa.blk HR.out.2.1 HNB.out.1, hfa.blk HR.out.2.2.1 HNB.out.2, HR.out.2.2.2.alloc (.cells #[.int .i64 cop, .int .i64 cn, .string cnm, .slice ca clen ccap] 38)⟩
          have HSV := Lib.hid (HSC.out.kept hfa.kept)
          clear hfa HR HSC v0 v1 v2 v3
          generalize wr.alloc (.cells #[.int .i64 cop, .int .i64 cn, .string cnm, .slice ca clen ccap] 38) = v at *
          generalize wr.heap.size = z at *
          have q0 : v.cell? ⟨w.heap.size, 0, none⟩ = some (.map (some b1)) := HV.out.2.1.cell 0
          have q1 : v.cell? ⟨w.heap.size, 1, none⟩ = some (.map (some b2)) := HV.out.2.1.cell 1
          obtain ⟨u0, u1, u2, u3, -, -, -, -⟩ := blk4' BV.out
          have hnk := Ex.nd_take HXE.out
          have hle : Ex.nd.go (ex.take (k + 1)) ≤ Ex.nd.go ex := nd_take_le ex (k + 1)
          have HC := Lib.hid (seenExpr_any _ _ (Nat.le_refl _) _ v b1 b2 _ _ _ HSV.out HV.out.2.2.2 (by have := HND.out; omega))
          have HNK := Lib.hid hnk
          clear hnk hle
          go_wp2_with fail
          go_at_call 54
          (with_reducible refine HC.out.mono ?_)
          rintro y w2 ⟨rfl, f2, t2⟩
          have FIN : Hid (Fr [b1, b2] w w2 ∧ Mem.Blk w2 w.heap.size 63 #[.map (some b1), .map (some b2)] ∧ Mem.Blk w2 (w.heap.size + 1) 33 #[.int .i64 op, .string nm, .slice (some ⟨b, o, none⟩) len cap, .slice a2 len2 cap2] ∧ Two w2 b1 b2 (l1 ++ []) (l2 ++ obsE.go (ex.take (k + 1))) (n + 1 + Ex.nd.go (ex.take (k + 1)))) := by
            refine ⟨HV.out.1.trans f2, f2.blk HV.out.2.1 HNB.out.1, f2.blk HV.out.2.2.1 HNB.out.2, ?_⟩
            rw [obs_take HXE.out, HNK.out, ← List.append_assoc, ← Nat.add_assoc]
            exact t2
          clear f2 t2 HC HV HSV BV u0 u1 u2 u3 q0 q1
          go_wp2_with fail
          go_roundw
          case rel => exact ⟨k + 1, by go_num, by omega, FIN.out⟩
          case measure => simp [intOf]; omega
        · have hk' : ¬ (k : Int) < (len : Int) := by omega
          have HE : Hid (Fr [b1, b2] w wr ∧ Mem.Blk wr w.heap.size 63 #[.map (some b1), .map (some b2)] ∧ Two wr b1 b2 (l1 ++ []) (l2 ++ obsE.go ex) (n + 1 + Ex.nd.go ex)) := by
            have h := HR.out
            rw [List.take_of_length_le (by rw [HL.out]; omega)] at h
            exact ⟨h.1, h.2.1, h.2.2.2⟩
          have c3 : wr.cell? ⟨w.heap.size + 1, 3, none⟩ = some (.slice a2 len2 cap2) := HR.out.2.2.1.cell 3
          clear HR
          obtain ⟨we, rfl⟩ : ∃ W : World, W = wr := ⟨_, rfl⟩
          go_wp2_with fail
          go_loopw [29] (fun i wr => ∃ (k : Nat), i = .int .i64 (k : Nat) ∧ k ≤ len2 ∧ Hid (Fr [b1, b2] w wr ∧ Mem.Blk wr w.heap.size 63 #[.map (some b1), .map (some b2)] ∧ Two wr b1 b2 (l1 ++ [] ++ coinsT.go (te.take k)) (l2 ++ obsE.go ex ++ obsT.go (te.take k)) (n + 1 + Ex.nd.go ex + Te.nd.go (te.take k)))) (fun i _ => len2 - (intOf i).toNat)
          case atStart => exact ⟨0, rfl, Nat.zero_le _, HE.out.1, HE.out.2.1, by simpa [coinsT.go, obsT.go, Te.nd.go] using HE.out.2.2⟩
          case round =>
            clear HE c3
            obtain ⟨q, rfl, hq, HR⟩ := hrel
            by_cases hlq : q < len2
            · obtain ⟨b, o, cop, cnm, cex, cte, ca, clen, ccap, da, dlen, dcap, rfl, -, -, hxe, j1, j3, hSc, hSd, v0, v1, v2, v3⟩ := (HSS2.out.kept HR.out.1.kept).at q hlq
              have j1' : (q : Int) < (len2 : Int) := by omega
              have j0' : (0 : Int) ≤ (q : Int) := by omega
              have HXE := Lib.hid hxe
              have HSC := Lib.hid (RepT.mk' j1 j3 hSc hSd)
              clear hxe j1 j3 hSc hSd
              go_upto_region 11 with (fail)
              have hfa := Fr.alloc wr (.cells #[.int .i64 cop, .string cnm, .slice ca clen ccap, .slice da dlen dcap] 33) [b1, b2]
              have BV := Lib.hid (Mem.Blk.new wr 33 #[.int .i64 cop, .string cnm, .slice ca clen ccap, .slice da dlen dcap])
              have HV : Hid (Fr [b1, b2] w _ ∧ Mem.Blk _ w.heap.size 63 _ ∧ Two _ b1 b2 _ _ _) := ⟨HR.out.1.trans hfa, hfa.blk HR.out.2.1 HNB.out.1, HR.out.2.2.alloc (.cells #[.int .i64 cop, .string cnm, .slice ca clen ccap, .slice da dlen dcap] 33)⟩
              have HSV := Lib.hid (RepT.kept HSC.out hfa.kept)
              clear hfa HR HSC v0 v1 v2 v3
              generalize wr.alloc (.cells #[.int .i64 cop, .string cnm, .slice ca clen ccap, .slice da dlen dcap] 33) = v at *
              generalize wr.heap.size = z at *
              have q0 : v.cell? ⟨w.heap.size, 0, none⟩ = some (.map (some b1)) := HV.out.2.1.cell 0
              have q1 : v.cell? ⟨w.heap.size, 1, none⟩ = some (.map (some b2)) := HV.out.2.1.cell 1
              obtain ⟨u0, u1, u2, u3, -, -, -, -⟩ := blk4' BV.out
              have hnk := Te.nd_take HXE.out
              have hle : Te.nd.go (te.take (q + 1)) ≤ Te.nd.go te := ndT_take_le te (q + 1)
              have HC := Lib.hid (HI.out q _ HXE.out _ v _ _ _ HSV.out HV.out.2.2 (by have := HND.out; omega))
              have HNK := Lib.hid hnk
              clear hnk hle
              go_wp2_with fail
              go_at_call 34
              (with_reducible refine HC.out.mono ?_)
              rintro y w2 ⟨rfl, f2, t2⟩
              have FIN : Hid (Fr [b1, b2] w w2 ∧ Mem.Blk w2 w.heap.size 63 #[.map (some b1), .map (some b2)] ∧ Two w2 b1 b2 (l1 ++ [] ++ coinsT.go (te.take (q + 1))) (l2 ++ obsE.go ex ++ obsT.go (te.take (q + 1))) (n + 1 + Ex.nd.go ex + Te.nd.go (te.take (q + 1)))) := by
                refine ⟨HV.out.1.trans f2, f2.blk HV.out.2.1 HNB.out.1, ?_⟩
                rw [coins_take HXE.out, obsT_take HXE.out, HNK.out, ← List.append_assoc (l1 ++ []), ← List.append_assoc (l2 ++ obsE.go ex), ← Nat.add_assoc]
                exact t2
              clear f2 t2 HC HV HSV BV u0 u1 u2 u3 q0 q1
              go_wp2_with fail
              go_roundw
              case rel => exact ⟨q + 1, by go_num, by omega, FIN.out⟩
              case measure => simp [intOf]; omega
            · have hq' : ¬ (q : Int) < (len2 : Int) := by omega
              have FIN : Hid (Fr [b1, b2] w wr ∧ Two wr b1 b2 (l1 ++ ([] ++ coinsT.go te)) (l2 ++ (obsE.go ex ++ obsT.go te)) (n + (1 + Ex.nd.go ex + Te.nd.go te))) := by
                have h := HR.out
                rw [List.take_of_length_le (by rw [HL2.out]; omega)] at h
                refine ⟨h.1, ?_⟩
                rw [← List.append_assoc, ← List.append_assoc, ← Nat.add_assoc, ← Nat.add_assoc]
                exact h.2.2
              clear HR
              go_wp2_with fail
              go_end0
              exact ⟨rfl, FIN.out⟩
end Go.Proofs.Ytjpkljkmignnjaa
