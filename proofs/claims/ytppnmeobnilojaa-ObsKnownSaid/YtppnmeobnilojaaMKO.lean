/- A part of the proof: Nds, KnP, Keys, Ndx, LawU, one behind another. -/
import Derived.Test.YtppnmeobnilojaaMKA
import Derived.Test.YtppnmeobnilojaaMKB
import Derived.Test.YtppnmeobnilojaaMKC
import Derived.Test.YtppnmeobnilojaaMKD
import Derived.Test.YtppnmeobnilojaaMKE
import Derived.Test.YtppnmeobnilojaaMKF
import Derived.Test.YtppnmeobnilojaaMKG
import Derived.Test.YtppnmeobnilojaaMKH
import Derived.Test.YtppnmeobnilojaaMKI
import Derived.Test.YtppnmeobnilojaaMKJ
import Derived.Test.YtppnmeobnilojaaMKK
import Derived.Test.YtppnmeobnilojaaMKL
import Derived.Test.YtppnmeobnilojaaMKM
import Derived.Test.YtppnmeobnilojaaMKN
import Derived.Deep.DeepCutAuto
import Derived.Shelf.SlIter.Nil
import Derived.Shelf.SortM.Plain
import Derived.Shelf.SortM.SortNone
import Derived.Test.YtppnmeobnilojaaProg
import Derived.WalkKit
import Derived.Carry
/- (Env).needs: the observables without a fixing come into the map; condition: not too many. -/
namespace Go.Proofs.Ytppnmeobnilojaa
set_option linter.unusedVariables false
set_option linter.unusedSimpArgs false
open Go.RowKit
noncomputable def unkP (day : Int) (fx : List Fx) : ByteArray → Bool := fun s => decide (seenV day fx s = .unk)
noncomputable def unsE (day : Int) (fx : List Fx) (e : Ex) : List ByteArray := (obsE e).filter (unkP day fx)
theorem seen_or (day : Int) (fx : List Fx) (nm : ByteArray) : seenV day fx nm = .unk ∨ ∃ n, seenV day fx nm = .num n := by
  unfold seenV
  split
  · exact .inr ⟨_, rfl⟩
  · exact .inl rfl
def OneM (w : World) (b : Nat) (l : List ByteArray) (n : Nat) : Prop := w.ownsMap Try.prog 9 (plainElem Try.prog 4) b n (setD l)
theorem OneM.fr {w w' : World} {X : List Nat} {b n : Nat} {l : List ByteArray} (h : OneM w b l n) (k : Fr X w w') (h1 : b ∉ X) : OneM w' b l n := k.map h h1
theorem OneM.more {w : World} {b n n' : Nat} {l : List ByteArray} (h : OneM w b l n) (hn : n ≤ n') : OneM w b l n' := World.ownsMap.mono h hn
theorem OneM.alloc {w : World} {b n : Nat} {l : List ByteArray} (h : OneM w b l n) (o : Obj) : OneM (w.alloc o) b l n := h.fr (Fr.alloc w o []) (by simp)
set_option maxRecDepth 100000 in
set_option maxHeartbeats 2000000 in
theorem needs_any (day : Int) (fx : List Fx) (fa : Option Addr) (fl fc : Nat) : ∀ (r : Nat) (e : Ex), e.rk ≤ r → ∀ (cs : List Value) (w : World) (b1 : Nat) (l1 : List ByteArray) (n : Nat), RepE w [b1] e cs → SlR fxK w [b1] fx fa fl fc → OneM w b1 l1 n → n + e.nd ≤ 1000000 →
    Calls Try.prog 70 #[.agg #[.int .i64 day, .slice fa fl fc], .agg cs.toArray, .map (some b1)] w fun x w' => x = .returned (.tuple #[]) ∧ Fr [b1] w w' ∧ OneM w' b1 (l1 ++ unsE day fx e) (n + e.nd) := by
  intro r
  induction r with
  | zero => intro e h; have := e.rk_pos; omega
  | succ r ih =>
    intro e hr cs w b1 l1 n hR hF hT hn
    obtain ⟨op, no, nm, args, a, len, cap, rfl, rfl, i1, i2, i3, hS⟩ := hR.inv
    obtain ⟨f1, f2, f3⟩ := hS.facts
    have hb1 : b1 < w.heap.size := hT.lt
    have HI : Hid (∀ (k : Nat) e1, args[k]? = some e1 → ∀ cs1 W l n', RepE W [b1] e1 cs1 → SlR fxK W [b1] fx fa fl fc → OneM W b1 l n' → n' + e1.nd ≤ 1000000 →
        Calls Try.prog 70 #[.agg #[.int .i64 day, .slice fa fl fc], .agg cs1.toArray, .map (some b1)] W fun x w' => x = .returned (.tuple #[]) ∧ Fr [b1] W w' ∧ OneM w' b1 (l ++ unsE day fx e1) (n' + e1.nd)) := by
      intro k e1 hk cs1 W l n' hR1 hF1 hT1 hn1
      exact ih e1 (by have := Ex.rk_lt (op := op) (n := no) (nm := nm) hk; omega) cs1 W b1 l n' hR1 hF1 hT1 hn1
    have HFR := Lib.hid ((Fr.alloc w (.cells #[.int .i64 day, .slice fa fl fc] 63) [b1]).trans (Fr.alloc _ (.cells #[.int .i64 op, .int .i64 no, .string nm, .slice a len cap] 46) _))
    have HT0 := Lib.hid ((hT.alloc (.cells #[.int .i64 day, .slice fa fl fc] 63)).alloc (.cells #[.int .i64 op, .int .i64 no, .string nm, .slice a len cap] 46))
    have BX := Lib.hid ((Mem.Blk.new w 63 #[.int .i64 day, .slice fa fl fc]).alloc (.cells #[.int .i64 op, .int .i64 no, .string nm, .slice a len cap] 46))
    have BY := Lib.hid (Mem.Blk.new (w.alloc (.cells #[.int .i64 day, .slice fa fl fc] 63)) 46 #[.int .i64 op, .int .i64 no, .string nm, .slice a len cap])
    rw [show (w.alloc (.cells #[.int .i64 day, .slice fa fl fc] 63)).heap.size = w.heap.size + 1 by simp] at BY
    have HSS := Lib.hid hS
    have HFX := Lib.hid hF
    have HL := Lib.hid f1
    have hnd : n + 1 + Ex.nd.go args ≤ 1000000 := by simp only [Ex.nd] at hn; omega
    have HND := Lib.hid hnd
    have HOE : Hid (unsE day fx (.mk op no nm args) = (if op = 3 then [nm] else []).filter (unkP day fx) ++ (obsE.go args).filter (unkP day fx)) := by
      show unsE day fx _ = _
      unfold unsE
      rw [← List.filter_append]; rfl
    have HNE : Hid ((Ex.mk op no nm args).nd = 1 + Ex.nd.go args) := by show _ = _; simp only [Ex.nd]
    have HNB : Hid (w.heap.size ∉ [b1] ∧ w.heap.size + 1 ∉ [b1]) := by constructor <;> simp <;> omega
    have hkey : keyOf Try.prog 9 (.string nm) = some (nmL nm) := Go.WideMaps.keyOf_string_mk Try.underlying9 i3
    have HKEY := Lib.hid hkey
    have HS2 := Lib.hid (seen_or day fx nm)
    have HUP : Hid (unkP day fx nm = decide (seenV day fx nm = .unk)) := rfl
    have HSE := Lib.hid (fun W (hW : SlR fxK W [] fx fa fl fc) => seen_any day fx nm fa fl fc W hW)
    rw [HOE.out, HNE.out]
    generalize seenV day fx nm = sv at *
    clear ih hr hR hS hF hT f1 hn hnd i1 i2 i3 hb1 HOE HNE hkey
    by_cases ho : op = 3
    · subst ho
      rw [if_pos rfl]
      rcases HS2.out with rfl | ⟨m, rfl⟩
      · have hfl : [nm].filter (unkP day fx) = [nm] := by rw [List.filter_cons, HUP.out]; simp
        rw [hfl]
        clear hfl HUP HS2
        go_enter Try.func70, Try.ntmps70
        go_upto_region 1 with (fail)
        generalize (w.alloc (.cells #[.int .i64 day, .slice fa fl fc] 63)).alloc (.cells #[.int .i64 3, .int .i64 no, .string nm, .slice a len cap] 46) = w0 at *
        have s0 : w0.cell? ⟨w.heap.size, 0, none⟩ = some (.int .i64 day) := BX.out.cell 0
        have s1 : w0.cell? ⟨w.heap.size, 1, none⟩ = some (.slice fa fl fc) := BX.out.cell 1
        have c0 : w0.cell? ⟨w.heap.size + 1, 0, none⟩ = some (.int .i64 3) := BY.out.cell 0
        have c2 : w0.cell? ⟨w.heap.size + 1, 2, none⟩ = some (.string nm) := BY.out.cell 2
        have c3 : w0.cell? ⟨w.heap.size + 1, 3, none⟩ = some (.slice a len cap) := BY.out.cell 3
        go_wp2_with fail
        go_at_call 35
        (with_reducible refine (HSE.out w0 (HFX.out.kept HFR.out.kept).free).mono ?_)
        rintro x w2 ⟨rfl, bb⟩
        simp only [seenRt]
        have HF2 := Lib.hid (HFR.out.trans (Fr.of_below bb [b1]))
        have HT2 := Lib.hid (HT0.out.fr (Fr.of_below bb []) (by simp))
        have BX2 := Lib.hid (BX.out.below bb)
        have BY2 := Lib.hid (BY.out.below bb)
        clear bb HFR HT0 BX BY HSE s0 s1 c0 c2 c3
        have s0 : w2.cell? ⟨w.heap.size, 0, none⟩ = some (.int .i64 day) := BX2.out.cell 0
        have s1 : w2.cell? ⟨w.heap.size, 1, none⟩ = some (.slice fa fl fc) := BX2.out.cell 1
        have c0 : w2.cell? ⟨w.heap.size + 1, 0, none⟩ = some (.int .i64 3) := BY2.out.cell 0
        have c2 : w2.cell? ⟨w.heap.size + 1, 2, none⟩ = some (.string nm) := BY2.out.cell 2
        have c3 : w2.cell? ⟨w.heap.size + 1, 3, none⟩ = some (.slice a len cap) := BY2.out.cell 3
        go_upto_region 5 with (at_mapUpdate; refine wpList_mapUpdate_own _ rfl _ _ _ 107 rfl 9 4 (Maps.string_keyed Try.underlying9) Try.underlying107 _ b1 n _ rfl HT2.out (by have := HND.out; unfold maxLen; omega) _ _ _ rfl rfl HKEY.out _ [] (plainElem_bool Try.underlying4 _) ?_; intro w1 hown1 hgrow1; have G1 := Lib.hid hgrow1; have O1 := Lib.hid hown1; clear hgrow1 hown1)
        have hf1 := Fr.of_grown (X := [b1]) G1.out (by simp)
        have HF1 := Lib.hid (HF2.out.trans hf1)
        have HT1 : Hid (OneM w1 b1 (l1 ++ [nm]) (n + 1)) := by
          have o := O1.out
          rw [setD_snoc] at o
          exact o
        have BX1 := Lib.hid (hf1.blk BX2.out HNB.out.1)
        have BY1 := Lib.hid (hf1.blk BY2.out HNB.out.2)
        clear hf1 G1 O1 s0 s1 c0 c2 c3 HF2 HT2 BX2 BY2
        have c3 : w1.cell? ⟨w.heap.size + 1, 3, none⟩ = some (.slice a len cap) := BY1.out.cell 3
        go_wp2_with fail
        go_loopw [28] (fun i wr => ∃ (k : Nat), i = .int .i64 (k : Nat) ∧ k ≤ len ∧ Hid (Fr [b1] w wr ∧ Mem.Blk wr w.heap.size 63 #[.int .i64 day, .slice fa fl fc] ∧ OneM wr b1 (l1 ++ [nm] ++ (obsE.go (args.take k)).filter (unkP day fx)) (n + 1 + Ex.nd.go (args.take k)))) (fun i _ => len - (intOf i).toNat)
        case atStart => exact ⟨0, rfl, Nat.zero_le _, HF1.out, BX1.out, by simpa [obsE.go, Ex.nd.go] using HT1.out⟩
        case round =>
          clear HF1 BX1 HT1 BY1 c3
          obtain ⟨k, rfl, hk, HR⟩ := hrel
          by_cases hlt : k < len
          · obtain ⟨b, o, cop, cn, cnm, cargs, ca, clen, ccap, rfl, -, -, hxe, j1, j2, j3, hSc, v0, v1, v2, v3⟩ := (HSS.out.kept HR.out.1.kept).at k hlt
            have j1' : (k : Int) < (len : Int) := by omega
            have j0' : (0 : Int) ≤ (k : Int) := by omega
            have HXE := Lib.hid hxe
            have HSC := Lib.hid (RepE.mk' j1 j2 j3 hSc)
            clear hxe j1 j2 j3 hSc
            go_upto_region 8 with (fail)
            have hfa := Fr.alloc wr (.cells #[.int .i64 cop, .int .i64 cn, .string cnm, .slice ca clen ccap] 46) [b1]
            have BV := Lib.hid (Mem.Blk.new wr 46 #[.int .i64 cop, .int .i64 cn, .string cnm, .slice ca clen ccap])
            have HV : Hid (Fr [b1] w _ ∧ Mem.Blk _ w.heap.size 63 _ ∧ OneM _ b1 _ _) := ⟨HR.out.1.trans hfa, hfa.blk HR.out.2.1 HNB.out.1, HR.out.2.2.alloc (.cells #[.int .i64 cop, .int .i64 cn, .string cnm, .slice ca clen ccap] 46)⟩
            have HSV := Lib.hid (HSC.out.kept hfa.kept)
            have HFV := Lib.hid (HFX.out.kept (HR.out.1.trans hfa).kept)
            clear hfa HR HSC v0 v1 v2 v3
            generalize wr.alloc (.cells #[.int .i64 cop, .int .i64 cn, .string cnm, .slice ca clen ccap] 46) = v at *
            generalize wr.heap.size = z at *
            have q0 : v.cell? ⟨w.heap.size, 0, none⟩ = some (.int .i64 day) := HV.out.2.1.cell 0
            have q1 : v.cell? ⟨w.heap.size, 1, none⟩ = some (.slice fa fl fc) := HV.out.2.1.cell 1
            obtain ⟨u0, u1, u2, u3, -, -, -, -⟩ := blk4' BV.out
            have hnk := Ex.nd_take HXE.out
            have hle : Ex.nd.go (args.take (k + 1)) ≤ Ex.nd.go args := nd_take_le args (k + 1)
            have HC := Lib.hid (HI.out k _ HXE.out _ v _ _ HSV.out HFV.out HV.out.2.2 (by have := HND.out; omega))
            have HNK := Lib.hid hnk
            clear hnk hle
            go_wp2_with fail
            go_at_call 70
            (with_reducible refine HC.out.mono ?_)
            rintro y w2 ⟨rfl, f2, t2⟩
            have FIN : Hid (Fr [b1] w w2 ∧ Mem.Blk w2 w.heap.size 63 #[.int .i64 day, .slice fa fl fc] ∧ OneM w2 b1 (l1 ++ [nm] ++ (obsE.go (args.take (k + 1))).filter (unkP day fx)) (n + 1 + Ex.nd.go (args.take (k + 1)))) := by
              refine ⟨HV.out.1.trans f2, f2.blk HV.out.2.1 HNB.out.1, ?_⟩
              rw [obs_take HXE.out, HNK.out, List.filter_append, ← List.append_assoc, ← Nat.add_assoc]
              exact t2
            clear f2 t2 HC HV HSV HFV BV u0 u1 u2 u3 q0 q1
            go_wp2_with fail
            go_roundw
            case rel => exact ⟨k + 1, by go_num, by omega, FIN.out⟩
            case measure => simp [intOf]; omega
          · have hk' : ¬ (k : Int) < (len : Int) := by omega
            have FIN : Hid (Fr [b1] w wr ∧ OneM wr b1 (l1 ++ ([nm] ++ (obsE.go args).filter (unkP day fx))) (n + (1 + Ex.nd.go args))) := by
              have h := HR.out
              rw [List.take_of_length_le (by rw [HL.out]; omega)] at h
              refine ⟨h.1, ?_⟩
              rw [← List.append_assoc, ← Nat.add_assoc]
              exact h.2.2
            clear HR
            go_wp2_with fail
            go_end0
            exact ⟨rfl, FIN.out⟩
      · have hfl : [nm].filter (unkP day fx) = [] := by rw [List.filter_cons, HUP.out]; simp
        rw [hfl]
        clear hfl HUP HS2
        go_enter Try.func70, Try.ntmps70
        go_upto_region 1 with (fail)
        generalize (w.alloc (.cells #[.int .i64 day, .slice fa fl fc] 63)).alloc (.cells #[.int .i64 3, .int .i64 no, .string nm, .slice a len cap] 46) = w0 at *
        have s0 : w0.cell? ⟨w.heap.size, 0, none⟩ = some (.int .i64 day) := BX.out.cell 0
        have s1 : w0.cell? ⟨w.heap.size, 1, none⟩ = some (.slice fa fl fc) := BX.out.cell 1
        have c0 : w0.cell? ⟨w.heap.size + 1, 0, none⟩ = some (.int .i64 3) := BY.out.cell 0
        have c2 : w0.cell? ⟨w.heap.size + 1, 2, none⟩ = some (.string nm) := BY.out.cell 2
        have c3 : w0.cell? ⟨w.heap.size + 1, 3, none⟩ = some (.slice a len cap) := BY.out.cell 3
        go_wp2_with fail
        go_at_call 35
        (with_reducible refine (HSE.out w0 (HFX.out.kept HFR.out.kept).free).mono ?_)
        rintro x w2 ⟨rfl, bb⟩
        simp only [seenRt]
        have HF2 := Lib.hid (HFR.out.trans (Fr.of_below bb [b1]))
        have HT2 := Lib.hid (HT0.out.fr (Fr.of_below bb []) (by simp))
        have BX2 := Lib.hid (BX.out.below bb)
        have BY2 := Lib.hid (BY.out.below bb)
        clear bb HFR HT0 BX BY HSE s0 s1 c0 c2 c3
        have s0 : w2.cell? ⟨w.heap.size, 0, none⟩ = some (.int .i64 day) := BX2.out.cell 0
        have s1 : w2.cell? ⟨w.heap.size, 1, none⟩ = some (.slice fa fl fc) := BX2.out.cell 1
        have c0 : w2.cell? ⟨w.heap.size + 1, 0, none⟩ = some (.int .i64 3) := BY2.out.cell 0
        have c2 : w2.cell? ⟨w.heap.size + 1, 2, none⟩ = some (.string nm) := BY2.out.cell 2
        have c3 : w2.cell? ⟨w.heap.size + 1, 3, none⟩ = some (.slice a len cap) := BY2.out.cell 3
        go_upto_region 5 with (fail)
        have HF1 := HF2
        have HT1 : Hid (OneM w2 b1 (l1 ++ []) (n + 1)) := by show OneM _ _ _ _; rw [List.append_nil]; exact HT2.out.more (by omega)
        have BX1 := BX2
        have BY1 := BY2
        obtain ⟨w1, rfl⟩ : ∃ W : World, W = w2 := ⟨_, rfl⟩
        clear s0 s1 c0 c2 HF2 HT2 BX2 BY2
        go_wp2_with fail
        go_loopw [28] (fun i wr => ∃ (k : Nat), i = .int .i64 (k : Nat) ∧ k ≤ len ∧ Hid (Fr [b1] w wr ∧ Mem.Blk wr w.heap.size 63 #[.int .i64 day, .slice fa fl fc] ∧ OneM wr b1 (l1 ++ [] ++ (obsE.go (args.take k)).filter (unkP day fx)) (n + 1 + Ex.nd.go (args.take k)))) (fun i _ => len - (intOf i).toNat)
        case atStart => exact ⟨0, rfl, Nat.zero_le _, HF1.out, BX1.out, by simpa [obsE.go, Ex.nd.go] using HT1.out⟩
        case round =>
          clear HF1 BX1 HT1 BY1 c3
          obtain ⟨k, rfl, hk, HR⟩ := hrel
          by_cases hlt : k < len
          · obtain ⟨b, o, cop, cn, cnm, cargs, ca, clen, ccap, rfl, -, -, hxe, j1, j2, j3, hSc, v0, v1, v2, v3⟩ := (HSS.out.kept HR.out.1.kept).at k hlt
            have j1' : (k : Int) < (len : Int) := by omega
            have j0' : (0 : Int) ≤ (k : Int) := by omega
            have HXE := Lib.hid hxe
            have HSC := Lib.hid (RepE.mk' j1 j2 j3 hSc)
            clear hxe j1 j2 j3 hSc
            go_upto_region 8 with (fail)
            have hfa := Fr.alloc wr (.cells #[.int .i64 cop, .int .i64 cn, .string cnm, .slice ca clen ccap] 46) [b1]
            have BV := Lib.hid (Mem.Blk.new wr 46 #[.int .i64 cop, .int .i64 cn, .string cnm, .slice ca clen ccap])
            have HV : Hid (Fr [b1] w _ ∧ Mem.Blk _ w.heap.size 63 _ ∧ OneM _ b1 _ _) := ⟨HR.out.1.trans hfa, hfa.blk HR.out.2.1 HNB.out.1, HR.out.2.2.alloc (.cells #[.int .i64 cop, .int .i64 cn, .string cnm, .slice ca clen ccap] 46)⟩
            have HSV := Lib.hid (HSC.out.kept hfa.kept)
            have HFV := Lib.hid (HFX.out.kept (HR.out.1.trans hfa).kept)
            clear hfa HR HSC v0 v1 v2 v3
            generalize wr.alloc (.cells #[.int .i64 cop, .int .i64 cn, .string cnm, .slice ca clen ccap] 46) = v at *
            generalize wr.heap.size = z at *
            have q0 : v.cell? ⟨w.heap.size, 0, none⟩ = some (.int .i64 day) := HV.out.2.1.cell 0
            have q1 : v.cell? ⟨w.heap.size, 1, none⟩ = some (.slice fa fl fc) := HV.out.2.1.cell 1
            obtain ⟨u0, u1, u2, u3, -, -, -, -⟩ := blk4' BV.out
            have hnk := Ex.nd_take HXE.out
            have hle : Ex.nd.go (args.take (k + 1)) ≤ Ex.nd.go args := nd_take_le args (k + 1)
            have HC := Lib.hid (HI.out k _ HXE.out _ v _ _ HSV.out HFV.out HV.out.2.2 (by have := HND.out; omega))
            have HNK := Lib.hid hnk
            clear hnk hle
            go_wp2_with fail
            go_at_call 70
            (with_reducible refine HC.out.mono ?_)
            rintro y w2 ⟨rfl, f2, t2⟩
            have FIN : Hid (Fr [b1] w w2 ∧ Mem.Blk w2 w.heap.size 63 #[.int .i64 day, .slice fa fl fc] ∧ OneM w2 b1 (l1 ++ [] ++ (obsE.go (args.take (k + 1))).filter (unkP day fx)) (n + 1 + Ex.nd.go (args.take (k + 1)))) := by
              refine ⟨HV.out.1.trans f2, f2.blk HV.out.2.1 HNB.out.1, ?_⟩
              rw [obs_take HXE.out, HNK.out, List.filter_append, ← List.append_assoc, ← Nat.add_assoc]
              exact t2
            clear f2 t2 HC HV HSV HFV BV u0 u1 u2 u3 q0 q1
            go_wp2_with fail
            go_roundw
            case rel => exact ⟨k + 1, by go_num, by omega, FIN.out⟩
            case measure => simp [intOf]; omega
          · have hk' : ¬ (k : Int) < (len : Int) := by omega
            have FIN : Hid (Fr [b1] w wr ∧ OneM wr b1 (l1 ++ ([] ++ (obsE.go args).filter (unkP day fx))) (n + (1 + Ex.nd.go args))) := by
              have h := HR.out
              rw [List.take_of_length_le (by rw [HL.out]; omega)] at h
              refine ⟨h.1, ?_⟩
              rw [← List.append_assoc, ← Nat.add_assoc]
              exact h.2.2
            clear HR
            go_wp2_with fail
            go_end0
            exact ⟨rfl, FIN.out⟩
    · have ho' : (op == 3) = false := beq_eq_false_iff_ne.2 ho
      rw [if_neg ho, List.filter_nil]
      clear HUP HS2 HSE HKEY
      go_enter Try.func70, Try.ntmps70
      go_upto_region 1 with (fail)
      generalize (w.alloc (.cells #[.int .i64 day, .slice fa fl fc] 63)).alloc (.cells #[.int .i64 op, .int .i64 no, .string nm, .slice a len cap] 46) = w0 at *
      have s0 : w0.cell? ⟨w.heap.size, 0, none⟩ = some (.int .i64 day) := BX.out.cell 0
      have s1 : w0.cell? ⟨w.heap.size, 1, none⟩ = some (.slice fa fl fc) := BX.out.cell 1
      have c0 : w0.cell? ⟨w.heap.size + 1, 0, none⟩ = some (.int .i64 op) := BY.out.cell 0
      have c2 : w0.cell? ⟨w.heap.size + 1, 2, none⟩ = some (.string nm) := BY.out.cell 2
      have c3 : w0.cell? ⟨w.heap.size + 1, 3, none⟩ = some (.slice a len cap) := BY.out.cell 3
      go_upto_region 5 with (fail)
      have HF1 := HFR
      have HT1 : Hid (OneM w0 b1 (l1 ++ []) (n + 1)) := by show OneM _ _ _ _; rw [List.append_nil]; exact HT0.out.more (by omega)
      have BX1 := BX
      have BY1 := BY
      obtain ⟨w1, rfl⟩ : ∃ W : World, W = w0 := ⟨_, rfl⟩
      clear s0 s1 c0 c2 HFR HT0 BX BY
      go_wp2_with fail
      go_loopw [28] (fun i wr => ∃ (k : Nat), i = .int .i64 (k : Nat) ∧ k ≤ len ∧ Hid (Fr [b1] w wr ∧ Mem.Blk wr w.heap.size 63 #[.int .i64 day, .slice fa fl fc] ∧ OneM wr b1 (l1 ++ [] ++ (obsE.go (args.take k)).filter (unkP day fx)) (n + 1 + Ex.nd.go (args.take k)))) (fun i _ => len - (intOf i).toNat)
      case atStart => exact ⟨0, rfl, Nat.zero_le _, HF1.out, BX1.out, by simpa [obsE.go, Ex.nd.go] using HT1.out⟩
      case round =>
        clear HF1 BX1 HT1 BY1 c3
        obtain ⟨k, rfl, hk, HR⟩ := hrel
        by_cases hlt : k < len
        · obtain ⟨b, o, cop, cn, cnm, cargs, ca, clen, ccap, rfl, -, -, hxe, j1, j2, j3, hSc, v0, v1, v2, v3⟩ := (HSS.out.kept HR.out.1.kept).at k hlt
          have j1' : (k : Int) < (len : Int) := by omega
          have j0' : (0 : Int) ≤ (k : Int) := by omega
          have HXE := Lib.hid hxe
          have HSC := Lib.hid (RepE.mk' j1 j2 j3 hSc)
          clear hxe j1 j2 j3 hSc
          go_upto_region 8 with (fail)
          have hfa := Fr.alloc wr (.cells #[.int .i64 cop, .int .i64 cn, .string cnm, .slice ca clen ccap] 46) [b1]
          have BV := Lib.hid (Mem.Blk.new wr 46 #[.int .i64 cop, .int .i64 cn, .string cnm, .slice ca clen ccap])
          have HV : Hid (Fr [b1] w _ ∧ Mem.Blk _ w.heap.size 63 _ ∧ OneM _ b1 _ _) := ⟨HR.out.1.trans hfa, hfa.blk HR.out.2.1 HNB.out.1, HR.out.2.2.alloc (.cells #[.int .i64 cop, .int .i64 cn, .string cnm, .slice ca clen ccap] 46)⟩
          have HSV := Lib.hid (HSC.out.kept hfa.kept)
          have HFV := Lib.hid (HFX.out.kept (HR.out.1.trans hfa).kept)
          clear hfa HR HSC v0 v1 v2 v3
          generalize wr.alloc (.cells #[.int .i64 cop, .int .i64 cn, .string cnm, .slice ca clen ccap] 46) = v at *
          generalize wr.heap.size = z at *
          have q0 : v.cell? ⟨w.heap.size, 0, none⟩ = some (.int .i64 day) := HV.out.2.1.cell 0
          have q1 : v.cell? ⟨w.heap.size, 1, none⟩ = some (.slice fa fl fc) := HV.out.2.1.cell 1
          obtain ⟨u0, u1, u2, u3, -, -, -, -⟩ := blk4' BV.out
          have hnk := Ex.nd_take HXE.out
          have hle : Ex.nd.go (args.take (k + 1)) ≤ Ex.nd.go args := nd_take_le args (k + 1)
          have HC := Lib.hid (HI.out k _ HXE.out _ v _ _ HSV.out HFV.out HV.out.2.2 (by have := HND.out; omega))
          have HNK := Lib.hid hnk
          clear hnk hle
          go_wp2_with fail
          go_at_call 70
          (with_reducible refine HC.out.mono ?_)
          rintro y w2 ⟨rfl, f2, t2⟩
          have FIN : Hid (Fr [b1] w w2 ∧ Mem.Blk w2 w.heap.size 63 #[.int .i64 day, .slice fa fl fc] ∧ OneM w2 b1 (l1 ++ [] ++ (obsE.go (args.take (k + 1))).filter (unkP day fx)) (n + 1 + Ex.nd.go (args.take (k + 1)))) := by
            refine ⟨HV.out.1.trans f2, f2.blk HV.out.2.1 HNB.out.1, ?_⟩
            rw [obs_take HXE.out, HNK.out, List.filter_append, ← List.append_assoc, ← Nat.add_assoc]
            exact t2
          clear f2 t2 HC HV HSV HFV BV u0 u1 u2 u3 q0 q1
          go_wp2_with fail
          go_roundw
          case rel => exact ⟨k + 1, by go_num, by omega, FIN.out⟩
          case measure => simp [intOf]; omega
        · have hk' : ¬ (k : Int) < (len : Int) := by omega
          have FIN : Hid (Fr [b1] w wr ∧ OneM wr b1 (l1 ++ ([] ++ (obsE.go args).filter (unkP day fx))) (n + (1 + Ex.nd.go args))) := by
            have h := HR.out
            rw [List.take_of_length_le (by rw [HL.out]; omega)] at h
            refine ⟨h.1, ?_⟩
            rw [← List.append_assoc, ← Nat.add_assoc]
            exact h.2.2
          clear HR
          go_wp2_with fail
          go_end0
          exact ⟨rfl, FIN.out⟩
end Go.Proofs.Ytppnmeobnilojaa

/- What ObsKnown says, plain; and fixings in a row of the call's own. -/
namespace Go.Proofs.Ytppnmeobnilojaa
set_option linter.unusedVariables false
set_option linter.unusedSimpArgs false
open Go.RowKit
theorem evalX_is (day : Int) (fx : List Fx) {e : Ex} (h : rE e = true) (h2 : kE e ≠ 0) : evalX day fx e = evalE day fx e := by unfold evalX kI; rw [if_pos h, if_neg h2]
theorem known_unk {day : Int} {fx : List Fx} {e : Ex} (hr : rE e = true) (hk : kE e ≠ 0) (h : (evalX day fx e).K = 0) : unsE day fx e ≠ [] := by
  rw [evalX_is day fx hr hk] at h
  have hu : evalE day fx e = .unk := by
    cases hv : evalE day fx e with
    | unk => rfl
    | brk => rw [hv] at h; cases h
    | num n => rw [hv] at h; cases h
    | tru b => rw [hv] at h; cases h
  obtain ⟨s, hs, hn⟩ := eval_unk day fx e.rk e (Nat.le_refl _) (rE_blt hr) hk hu
  intro h0
  have : s ∈ unsE day fx e := List.mem_filter.2 ⟨hs, decide_eq_true hn⟩
  rw [h0] at this
  cases this
theorem known_ty {day : Int} {fx : List Fx} {e : Ex} (hr : rE e = true) (hk : kE e ≠ 0) : ((evalX day fx e).K = 1 → kE e = 1) ∧ ((evalX day fx e).K = 2 → kE e = 2) := by
  rw [evalX_is day fx hr hk]
  rcases eval_ty day fx e.rk e (Nat.le_refl _) (rE_blt hr) hk with h | h | ⟨h1, n, h⟩ | ⟨h1, b, h⟩ <;> rw [h]
  · exact ⟨fun h => (by cases h), fun h => (by cases h)⟩
  · exact ⟨fun h => (by cases h), fun h => (by cases h)⟩
  · exact ⟨fun _ => h1, fun h => (by cases h)⟩
  · exact ⟨fun h => (by cases h), fun _ => h1⟩
theorem known_later {day : Int} {fx : List Fx} {e : Ex} (m : Fx) (hr : rE e = true) (hk : kE e ≠ 0) (h : day < m.day) : evalX day fx e = evalX day (fx ++ [m]) e := by
  rw [evalX_is day fx hr hk, evalX_is day _ hr hk]
  exact eval_same day fx (fx ++ [m]) (fun s => seen_later day fx m h s) e.rk e (Nat.le_refl _)
theorem known_more {day : Int} {fx : List Fx} {e : Ex} (m : Fx) (hr : rE e = true) (hk : kE e ≠ 0) (h : seenV day fx m.name = .unk) : (evalX day fx e).K = 0 ∨ (evalX day fx e).K = 3 ∨ (evalX day (fx ++ [m]) e).K = 3 ∨ evalX day fx e = evalX day (fx ++ [m]) e := by
  rw [evalX_is day fx hr hk, evalX_is day _ hr hk]
  rcases eval_mono day fx (fx ++ [m]) (fun s => seen_more day fx m h s) e.rk e (Nat.le_refl _) (rE_blt hr) hk with h | h | h | h
  · exact .inl (by rw [h]; rfl)
  · exact .inr (.inl (by rw [h]; rfl))
  · exact .inr (.inr (.inl (by rw [h]; rfl)))
  · exact .inr (.inr (.inr h))
theorem fx_good {w : World} {X : List Nat} {fx : List Fx} {a : Option Addr} {len cap : Nat} (h : SlR fxK w X fx a len cap) : ∀ f ∈ fx, f.name.size ≤ 9223372036854775807 ∧ I64 f.day ∧ I64 f.val := by
  intro f hf
  obtain ⟨k, hk⟩ := List.getElem?_of_mem hf
  have hlt : k < len := by rw [← h.facts.1]; exact (List.getElem?_eq_some_iff.1 hk).1
  obtain ⟨b, o, f', -, -, -, he, h1, h2, h3, -⟩ := fx_at h k hlt
  rw [hk] at he; injection he with he; subst he
  exact ⟨h1, h2, h3⟩
theorem csl_map {fx : List Fx} {csl : List (List Value)} (hl : csl.length = fx.length) (h : ∀ (i : Nat) y cs, fx[i]? = some y → csl[i]? = some cs → cs = fxC y) : csl = fx.map fxC := by
  refine List.ext_getElem? (fun i => ?_)
  rw [List.getElem?_map]
  cases hy : fx[i]? with
  | none => rw [List.getElem?_eq_none (by have := List.getElem?_eq_none_iff.1 hy; omega)]; rfl
  | some y =>
    have hi : i < csl.length := by rw [hl]; exact (List.getElem?_eq_some_iff.1 hy).1
    rw [List.getElem?_eq_getElem hi]
    exact congrArg some (h i y _ hy (List.getElem?_eq_getElem hi))
theorem own_fxs {w0 w : World} {v : Value} {n : Nat} {l : List Fx} (h : w.ownsRow w0.heap.size 83 3 v n (l.map fxC).flatten) (hl : l.length = n) (hb : Below w0.heap.size w0 w) (hg : ∀ f ∈ l, f.name.size ≤ 9223372036854775807 ∧ I64 f.day ∧ I64 f.val) :
    ∃ a cap, v = .slice a n cap ∧ SlR fxK w [] l a n cap := by
  obtain ⟨a, c, rfl, hsl, -⟩ := own_sl (w0 := w0) (X := []) ⟨hb, h⟩ (by rw [List.length_map, hl]) (fun c hc => by obtain ⟨s, _, rfl⟩ := List.mem_map.1 hc; rfl) (fun b hb => by cases hb)
  refine ⟨a, c, rfl, ⟨l.map fxC, by rw [List.length_map], fun i x cs hx hc => ?_, hsl⟩⟩
  rw [List.getElem?_map, hx] at hc
  injection hc with hc
  exact ⟨hc.symm, hg x (List.mem_of_getElem? hx)⟩
/-- Where ObsKnown stands: w3 is the world ahead of what it made of what is seen. -/
structure KnS (w3 W : World) (day : Int) (l : List Fx) (a : Option Addr) (n cap z2 : Nat) : Prop where
  old : Below w3.heap.size w3 W
  env : Mem.Blk W z2 63 #[.int .i64 day, .slice a n cap]
  row : W.ownsRow w3.heap.size 83 3 (.slice a n cap) n (l.map fxC).flatten
  lo : w3.heap.size ≤ z2
  far : ∀ g, (Value.slice a n cap).ownBlock = some g → g ≠ z2
  cnt : l.length = n
  good : ∀ f ∈ l, f.name.size ≤ 9223372036854775807 ∧ I64 f.day ∧ I64 f.val
section
variable {w3 W W' : World} {day : Int} {l : List Fx} {a : Option Addr} {n cap z2 : Nat}
theorem KnS.up (h : KnS w3 W day l a n cap z2) (b : Below W.heap.size W W') : KnS w3 W' day l a n cap z2 :=
  ⟨h.old.trans (b.mono h.old.size), h.env.below b, own_below h.row b, h.lo, h.far, h.cnt, h.good⟩
theorem KnS.sl (h : KnS w3 W day l a n cap z2) : SlR fxK W [] l a n cap := by
  obtain ⟨a', c', e, hs⟩ := own_fxs h.row h.cnt h.old h.good
  injection e with e1 _ e3; subst e1; subst e3
  exact hs
theorem fr_own {w w' : World} {v : Value} (h : w.grownBy w' v.ownBlock) : Fr v.ownBlock.toList w w' := by
  cases hv : v.ownBlock with
  | none =>
    rw [hv] at h
    exact .of_below ((Below.refl w.heap.size w).grown h (Nat.le_refl _) (fun b hb => by cases hb)) _
  | some g =>
    rw [hv] at h
    exact .of_grown h (by simp)
theorem KnS.push {w4 : World} {v' : Value} {m : Fx} (h : KnS w3 W day l a n cap z2) (hm : m.name.size ≤ 9223372036854775807 ∧ I64 m.day ∧ I64 m.val)
    (o : w4.ownsRow w3.heap.size 83 3 v' (n + 1) ((l.map fxC).flatten ++ fxC m)) (g : W.grownBy w4 (Value.slice a n cap).ownBlock) (hv : v'.ownBlock = (Value.slice a n cap).ownBlock ∨ v'.ownBlock = some W.heap.size) :
    (w4.cell? ⟨z2, 1, none⟩ = some (.slice a n cap) ∧ w4.frozen? ⟨z2, 1, none⟩ = false) ∧ ∃ a' c', v' = .slice a' (n + 1) c' ∧ KnS w3 (w4.setCell ⟨z2, 1, none⟩ v') day (l ++ [m]) a' (n + 1) c' z2 := by
  have hz := h.env.lt
  have hB4 : Mem.Blk w4 z2 63 #[.int .i64 day, .slice a n cap] := (fr_own g).blk h.env (fun hm => h.far z2 (by simpa using hm) rfl)
  have hfar : ∀ g, v'.ownBlock = some g → g ≠ z2 := by
    intro b hb
    rcases hv with hv | hv
    · rw [hv] at hb; exact h.far b hb
    · rw [hv] at hb; injection hb with hb; omega
  refine ⟨⟨hB4.cell 1, hB4.frozen 1⟩, ?_⟩
  obtain ⟨a', c', rfl⟩ := own_slice o
  refine ⟨a', c', rfl, (h.old.grown g h.old.size (fun b hb => (own_lt h.row hb).1)).setCell h.lo _, hB4.set_ 1 _, ?_, h.lo, hfar, by rw [List.length_append, h.cnt]; rfl, ?_⟩
  · rw [List.map_append, List.flatten_append]
    have e : ([m].map fxC).flatten = fxC m := by simp
    rw [e]
    refine own_same o (fun g hg => ?_)
    exact (Kept.setCell (X := [z2]) w4 (p := ⟨z2, 1, none⟩) (by simp) _).2 g (own_lt o hg).2 (fun hmem => hfar g hg (by simpa using hmem))
  · intro f hf
    rcases List.mem_append.1 hf with hf | hf
    · exact h.good f hf
    · rw [List.mem_singleton] at hf; subst hf; exact hm
end
end Go.Proofs.Ytppnmeobnilojaa

/- slices.Sorted(maps.Keys(m)) at any map of strings: a new slice of its keys, in order. -/
namespace Go.Proofs.Ytppnmeobnilojaa
set_option linter.unusedVariables false
set_option linter.unusedSimpArgs false
open Go Go.RowKit Go.Maps Go.Sort Go.Shelf
def keys72_ren : Shelf.Ren := { f := fun x => match x with | 7 => 72 | 10 => 104 | n => n, t := fun x => match x with | 23 => 107 | 26 => 9 | 3 => 4 | 28 => 111 | 0 => 0 | 27 => 110 | 33 => 116 | 4 => 4 | n => n, g := fun x => x }
theorem keys72 : SlLaysZ.n7 Try.prog keys72_ren :=
  { mixed := by kernel_rfl,
    f7 := ⟨"maps.Keys[map[string]bool,string,bool]", by decide, (Try.func72).trans (congrArg some (by kernel_rfl))⟩,
    f10 := ⟨"maps.Keys[map[string]bool,string,bool]$1", by decide, (Try.func104).trans (congrArg some (by kernel_rfl))⟩,
    t0 := Try.underlying0,
    a0 := Try.isAgg0,
    z0 := Try.sizeOf0,
    v0 := Try.zeroValue0,
    t4 := Try.underlying4,
    a4 := Try.isAgg4,
    z4 := Try.sizeOf4,
    v4 := Try.zeroValue4,
    t23 := Try.underlying107,
    a23 := Try.isAgg107,
    z23 := Try.sizeOf107,
    v23 := Try.zeroValue107,
    t26 := Try.underlying9,
    a26 := Try.isAgg9,
    z26 := Try.sizeOf9,
    v26 := Try.zeroValue9,
    t27 := Try.underlying110,
    a27 := Try.isAgg110,
    z27 := Try.sizeOf110,
    v27 := Try.zeroValue110,
    t28 := Try.underlying111,
    a28 := Try.isAgg111,
    z28 := Try.sizeOf111,
    v28 := Try.zeroValue111,
    t33 := Try.underlying116,
    a33 := Try.isAgg116,
    z33 := Try.sizeOf116,
    v33 := Try.zeroValue116 }
def sorted71_ren : Shelf.Ren := { f := fun x => match x with | 6 => 71 | 8 => 102 | 9 => 103 | 11 => 122 | 13 => 124 | 12 => 123 | 23 => 143 | 24 => 144 | 14 => 134 | 15 => 135 | 16 => 136 | 17 => 137 | 18 => 138 | 19 => 139 | 20 => 140 | 21 => 141 | 22 => 142 | 25 => 150 | 26 => 151 | 27 => 152 | 28 => 153 | 29 => 154 | 30 => 155 | 31 => 157 | n => n, t := fun x => match x with | 26 => 9 | 28 => 111 | 24 => 77 | 0 => 0 | 3 => 3 | 37 => 113 | 48 => 170 | 50 => 141 | 4 => 4 | 40 => 163 | 39 => 162 | 45 => 43 | 5 => 5 | 9 => 9 | 51 => 177 | 55 => 181 | 57 => 185 | 58 => 53 | 33 => 116 | n => n, g := fun x => x }
theorem sorted71 : SlLaysZ.n6 Try.prog sorted71_ren :=
  { mixed := by kernel_rfl,
    f6 := ⟨"slices.Sorted[string]", by decide, (Try.func71).trans (congrArg some (by kernel_rfl))⟩,
    f8 := ⟨"slices.Collect[string]", by decide, (Try.func102).trans (congrArg some (by kernel_rfl))⟩,
    f11 := ⟨"slices.AppendSeq[[]string,string]", by decide, (Try.func122).trans (congrArg some (by kernel_rfl))⟩,
    t0 := Try.underlying0,
    a0 := Try.isAgg0,
    z0 := Try.sizeOf0,
    v0 := Try.zeroValue0,
    t24 := Try.underlying77,
    a24 := Try.isAgg77,
    z24 := Try.sizeOf77,
    v24 := Try.zeroValue77,
    t26 := Try.underlying9,
    a26 := Try.isAgg9,
    z26 := Try.sizeOf9,
    v26 := Try.zeroValue9,
    t28 := Try.underlying111,
    a28 := Try.isAgg111,
    z28 := Try.sizeOf111,
    v28 := Try.zeroValue111,
    i26 := by kernel_rfl }
def sort103_ren : Shelf.Ren := { f := fun x => match x with | 6 => 103 | 8 => 124 | 9 => 123 | 19 => 143 | 20 => 144 | 21 => 134 | 22 => 135 | 23 => 136 | 24 => 137 | 25 => 138 | 26 => 139 | 27 => 140 | 28 => 141 | 29 => 142 | 36 => 150 | 31 => 151 | 32 => 152 | 37 => 153 | 38 => 154 | 39 => 155 | 41 => 157 | n => n, t := fun x => match x with | 27 => 77 | 29 => 9 | 3 => 3 | 32 => 113 | 26 => 77 | 0 => 0 | 44 => 170 | 46 => 141 | 4 => 4 | 36 => 163 | 35 => 162 | 41 => 43 | 5 => 5 | 9 => 9 | 53 => 177 | 57 => 181 | 63 => 185 | 64 => 53 | n => n, g := fun x => x }
theorem sort103 : SlLaysM.n6 Try.prog sort103_ren :=
  { mixed := by kernel_rfl,
    f6 := ⟨"slices.Sort[[]string,string]", by decide, (Try.func103).trans (congrArg some (by kernel_rfl))⟩,
    f8 := (Try.func124).trans (congrArg some (by kernel_rfl)),
    f9 := ⟨"slices.pdqsortOrdered[string]", by decide, (Try.func123).trans (congrArg some (by kernel_rfl))⟩,
    f19 := (Try.func143).trans (congrArg some (by kernel_rfl)),
    f20 := (Try.func144).trans (congrArg some (by kernel_rfl)),
    f21 := ⟨"slices.insertionSortOrdered[string]", by decide, (Try.func134).trans (congrArg some (by kernel_rfl))⟩,
    f22 := ⟨"slices.heapSortOrdered[string]", by decide, (Try.func135).trans (congrArg some (by kernel_rfl))⟩,
    f23 := ⟨"slices.breakPatternsOrdered[string]", by decide, (Try.func136).trans (congrArg some (by kernel_rfl))⟩,
    f24 := ⟨"slices.choosePivotOrdered[string]", by decide, (Try.func137).trans (congrArg some (by kernel_rfl))⟩,
    f25 := ⟨"slices.reverseRangeOrdered[string]", by decide, (Try.func138).trans (congrArg some (by kernel_rfl))⟩,
    f26 := ⟨"slices.partialInsertionSortOrdered[string]", by decide, (Try.func139).trans (congrArg some (by kernel_rfl))⟩,
    f27 := ⟨"cmp.Less[string]", by decide, (Try.func140).trans (congrArg some (by kernel_rfl))⟩,
    f28 := ⟨"slices.partitionEqualOrdered[string]", by decide, (Try.func141).trans (congrArg some (by kernel_rfl))⟩,
    f29 := ⟨"slices.partitionOrdered[string]", by decide, (Try.func142).trans (congrArg some (by kernel_rfl))⟩,
    f31 := (Try.func151).trans (congrArg some (by kernel_rfl)),
    f32 := (Try.func152).trans (congrArg some (by kernel_rfl)),
    f36 := ⟨"slices.siftDownOrdered[string]", by decide, (Try.func150).trans (congrArg some (by kernel_rfl))⟩,
    f37 := ⟨"slices.medianAdjacentOrdered[string]", by decide, (Try.func153).trans (congrArg some (by kernel_rfl))⟩,
    f38 := ⟨"slices.medianOrdered[string]", by decide, (Try.func154).trans (congrArg some (by kernel_rfl))⟩,
    f39 := ⟨"cmp.isNaN[string]", by decide, (Try.func155).trans (congrArg some (by kernel_rfl))⟩,
    f41 := ⟨"slices.order2Ordered[string]", by decide, (Try.func157).trans (congrArg some (by kernel_rfl))⟩,
    t0 := Try.underlying0,
    a0 := Try.isAgg0,
    z0 := Try.sizeOf0,
    v0 := Try.zeroValue0,
    t3 := Try.underlying3,
    a3 := Try.isAgg3,
    z3 := Try.sizeOf3,
    v3 := Try.zeroValue3,
    t4 := Try.underlying4,
    a4 := Try.isAgg4,
    z4 := Try.sizeOf4,
    v4 := Try.zeroValue4,
    t5 := Try.underlying5,
    a5 := Try.isAgg5,
    z5 := Try.sizeOf5,
    v5 := Try.zeroValue5,
    t9 := Try.underlying9,
    a9 := Try.isAgg9,
    z9 := Try.sizeOf9,
    v9 := Try.zeroValue9,
    t26 := Try.underlying77,
    a26 := Try.isAgg77,
    z26 := Try.sizeOf77,
    v26 := Try.zeroValue77,
    t27 := Try.underlying77,
    a27 := Try.isAgg77,
    z27 := Try.sizeOf77,
    v27 := Try.zeroValue77,
    t29 := Try.underlying9,
    a29 := Try.isAgg9,
    z29 := Try.sizeOf9,
    v29 := Try.zeroValue9,
    t32 := Try.underlying113,
    a32 := Try.isAgg113,
    z32 := Try.sizeOf113,
    v32 := Try.zeroValue113,
    t35 := Try.underlying162,
    a35 := Try.isAgg162,
    z35 := Try.sizeOf162,
    v35 := Try.zeroValue162,
    t36 := Try.underlying163,
    a36 := Try.isAgg163,
    z36 := Try.sizeOf163,
    v36 := Try.zeroValue163,
    t41 := Try.underlying43,
    a41 := Try.isAgg43,
    z41 := Try.sizeOf43,
    v41 := Try.zeroValue43,
    t44 := Try.underlying170,
    a44 := Try.isAgg170,
    z44 := Try.sizeOf170,
    v44 := Try.zeroValue170,
    t46 := Try.underlying141,
    a46 := Try.isAgg141,
    z46 := Try.sizeOf141,
    v46 := Try.zeroValue141,
    t53 := Try.underlying177,
    a53 := Try.isAgg177,
    z53 := Try.sizeOf177,
    v53 := Try.zeroValue177,
    t57 := Try.underlying181,
    a57 := Try.isAgg181,
    z57 := Try.sizeOf181,
    v57 := Try.zeroValue181,
    t63 := Try.underlying185,
    a63 := Try.isAgg185,
    z63 := Try.sizeOf185,
    v63 := Try.zeroValue185,
    t64 := Try.underlying53,
    a64 := Try.isAgg53,
    z64 := Try.sizeOf53,
    v64 := Try.zeroValue53 }
/-- maps.Keys at whatever map. -/
theorem mapKeys_bool (mb : Option Nat) (W : World) : Calls Try.prog 72 #[.map mb] W fun e w' => e = .returned (.func (.func 104) #[] #[.pointer (some ⟨W.heap.size, 0, none⟩)]) ∧ w' = W.alloc (.cells #[.map mb] 107) :=
  callsIn_wide.1 (AnyZ.keys_in keys72 Fence.wide 5 trivial rfl mb W)
theorem sorts_71 (m : Nat) : AnyZ.SortsIn Try.prog sorted71_ren Fence.wide m :=
  ⟨fun blk off cap ss W hH hblk hsz => callsIn_wide.2 (AnyM.slices_Sort_string sort103 blk off cap ss W hH hblk hsz),
   fun p cap W => callsIn_wide.2 (AnyM.slices_Sort_string_none sort103 p cap W)⟩
/-- slices.Sorted at the keys of a map that isn't nil. -/
theorem sortedKeys_bool {H : Type} (p b nn : Nat) (D0 : DataW H) (R : Value → Option (DataW H × List MemPlace)) (w : World) (hp : p < w.heap.size) (hc : w.cell? ⟨p, 0, none⟩ = some (.map (some b))) (hown : w.ownsMap Try.prog 9 R b nn D0) (hmax : Maps.size D0 ≤ maxLen) (hbytes : Maps.size D0 * 16 ≤ 140737488355328) :
    Calls Try.prog 71 #[.func (.func 104) #[] #[.pointer (some ⟨p, 0, none⟩)]] w fun e w' => ∃ (v : Value) (ss : List (List UInt8)), e = .returned v ∧ ss.Perm (strKeys D0) ∧
      w'.ownsRow w.heap.size 9 1 v ss.length ((ss.mergeSort (fun x y => decide (x ≤ y))).map encStr) ∧ (v = .slice none 0 0 ↔ ss = []) ∧ Below w.heap.size w w' :=
  callsIn_wide.1 (AnyZ.sorted_in sorted71 Fence.wide 5 trivial trivial trivial trivial rfl (by omega) (sorts_71 _) (enters_of Try.func103 (by kernel_rfl) rfl) 104 #[.pointer (some ⟨p, 0, none⟩)] trivial (enters_of Try.func104 (by kernel_rfl) rfl) _ _ hmax hbytes _
    (AnyZ.keys_gives (ρ := keys72_ren) { keys72 with } Fence.wide _ trivial rfl (by omega) p b nn D0 _ hp hc hown))
end Go.Proofs.Ytppnmeobnilojaa

/- The contract of obs.Needs. -/
namespace Go.Proofs.Ytppnmeobnilojaa
set_option linter.unusedVariables false
set_option linter.unusedSimpArgs false
open Go.RowKit
theorem strKeys_len {H : Type} (D : DataW H) : (Go.strKeys D).length = Maps.size D := by
  cases D <;> simp [Go.strKeys, Maps.size]
noncomputable def needsL (day : Int) (fx : List Fx) (e : Ex) : List (List UInt8) := (Go.strKeys (setD (unsE day fx e))).mergeSort (fun x y => decide (x ≤ y))
set_option maxRecDepth 100000 in
set_option maxHeartbeats 2000000 in
theorem needsX_any (day : Int) (fx : List Fx) (fa : Option Addr) (fl fc : Nat) (e : Ex) (cs : List Value) (w : World) (hR : RepE w [] e cs) (hk : e.rk ≤ 1000) (hF : SlR fxK w [] fx fa fl fc) :
    Calls Try.prog 45 #[.agg cs.toArray, .agg #[.int .i64 day, .slice fa fl fc]] w fun x w' => (∃ a c L, x = .returned (.slice a L.length c) ∧ SlR strK w' [] L a L.length c ∧ (rE e = false → L = []) ∧ (rE e = true → L.Perm (Go.strKeys (setD (unsE day fx e))) ∧ L.Pairwise (fun x y => x ≤ y))) ∧ Below w.heap.size w w' := by
  have HRT := Lib.hid (show RepE w [] e cs from hR)
  have HFX := Lib.hid hF
  have HKK := Lib.hid hk
  obtain ⟨op, no, nm, args, a, len, cap, -, rfl, -, -, -, -⟩ := hR.inv
  have B0 := Mem.Blk.new w 46 #[.int .i64 op, .int .i64 no, .string nm, .slice a len cap]
  have B1 := Mem.Blk.new (w.alloc (.cells #[.int .i64 op, .int .i64 no, .string nm, .slice a len cap] 46)) 63 #[.int .i64 day, .slice fa fl fc]
  have e1 : (w.alloc (.cells #[.int .i64 op, .int .i64 no, .string nm, .slice a len cap] 46)).heap.size = w.heap.size + 1 := by simp
  rw [e1] at B1
  have HB := Lib.hid (((Below.refl w.heap.size w).alloc (Nat.le_refl _) (.cells #[.int .i64 op, .int .i64 no, .string nm, .slice a len cap] 46)).alloc (by rw [e1]; omega) (.cells #[.int .i64 day, .slice fa fl fc] 63))
  have BX := Lib.hid (B0.alloc (.cells #[.int .i64 day, .slice fa fl fc] 63))
  have BE := Lib.hid B1
  have hmm := @run_makeMap Try.prog
  have HRE := Lib.hid (@rE_blt e)
  clear hR hF hk B0 B1 e1
  obtain ⟨re, hre⟩ : ∃ re, re = rE e := ⟨_, rfl⟩
  have HRE' := Lib.hid hre
  go_enter Try.func45, Try.ntmps45
  go_upto_region 1 with (fail)
  generalize (w.alloc (.cells #[.int .i64 op, .int .i64 no, .string nm, .slice a len cap] 46)).alloc (.cells #[.int .i64 day, .slice fa fl fc] 63) = v at *
  obtain ⟨x0, x1, x2, x3, -, -, -, -⟩ := blk4 BX.out
  go_wp2_with fail
  go_at_call 33
  (with_reducible refine (rightExpr_any e _ _ (HRT.out.kept (Kept.of_below HB.out [])) HKK.out).mono ?_)
  rintro y w1 ⟨rfl, b1⟩
  rw [← hre]
  clear hre
  have HB1 := Lib.hid (HB.out.trans (b1.mono HB.out.size))
  have BX1 := Lib.hid (BX.out.below b1)
  have BE1 := Lib.hid (BE.out.below b1)
  clear b1 HB BX BE x0 x1 x2 x3
  cases re with
  | false =>
    go_wp2_with fail
    go_ret
    exact ⟨⟨none, 0, [], rfl, SlR.nil _ _ _, fun _ => rfl, fun h => by rw [← HRE'.out] at h; cases h⟩, HB1.out⟩
  | true =>
    go_upto_region 4 with (fail)
    have hnd : e.nd ≤ 200 := by
      have h : rE e = (decide (e.nd ≤ 200 ∧ e.rk ≤ 16) && bE e) := rfl
      have h2 := HRE'.out.symm
      rw [h, Bool.and_eq_true, decide_eq_true_eq] at h2
      exact h2.1.1
    have HM0 : Hid (OneM (w1.alloc (.map #[] 0)) w1.heap.size [] 0) := World.ownsMap_made w1 Try.prog 9 (plainElem (H := Unit) Try.prog 4)
    have hbn := (Below.refl w1.heap.size w1).alloc (Nat.le_refl _) (.map #[] 0)
    have HB2 := Lib.hid (HB1.out.trans (hbn.mono HB1.out.size))
    have BX2 := Lib.hid (BX1.out.below hbn)
    have BE2 := Lib.hid (BE1.out.below hbn)
    have hs1 : w.heap.size + 1 < w1.heap.size := BE1.out.lt
    have HR2 := Lib.hid ((HRT.out.less (X' := [w1.heap.size]) (fun b hb hm => by rw [List.mem_singleton] at hm; omega)).kept (Kept.of_below HB2.out _))
    have HF2 := Lib.hid ((HFX.out.less (X' := [w1.heap.size]) (fun b hb hm => by rw [List.mem_singleton] at hm; omega)).kept (Kept.of_below HB2.out _))
    have HGE : Hid (∀ b ∈ [w1.heap.size], w.heap.size ≤ b) := by
      intro b hb
      rw [List.mem_singleton] at hb; omega
    have HN := Lib.hid hnd
    clear hbn hs1 hnd BX1 BE1 HB1 hmm
    generalize w1.alloc (.map #[] 0) = w2 at *
    generalize w1.heap.size = m at *
    obtain ⟨x0, x1, x2, x3, -, -, -, -⟩ := blk4 BX2.out
    obtain ⟨e0, e1, -, -⟩ := BE2.out.two
    go_wp2_with fail
    go_at_call 70
    (with_reducible refine (needs_any day fx fa fl fc e.rk e (Nat.le_refl _) _ w2 m [] 0 HR2.out HF2.out HM0.out (by have := HN.out; omega)).mono ?_)
    rintro y w3 ⟨rfl, f3, t3⟩
    rw [List.nil_append] at t3
    have HB3 := Lib.hid (HB2.out.trans (f3.below HB2.out.size HGE.out))
    have HT3 := Lib.hid t3
    have HSZ : Hid (Maps.size (setD (unsE day fx e)) ≤ 1000) := by
      have h1 := World.ownsMap.size_le t3
      have := HN.out
      show _ ≤ _
      omega
    clear f3 t3 x0 x1 x2 x3 e0 e1 HB2 BX2 BE2 HR2 HF2 HM0 HGE
    go_wp2_with fail
    go_at_call 72
    (with_reducible refine (mapKeys_bool _ _).mono ?_)
    rintro y w4 ⟨rfl, rfl⟩
    have hb := (Below.refl w3.heap.size w3).alloc (Nat.le_refl _) (.cells #[.map (some m)] 107)
    have HB4 := Lib.hid (HB3.out.trans (hb.mono HB3.out.size))
    have HT4 := Lib.hid (HT3.out.alloc (.cells #[.map (some m)] 107))
    have BZ := Lib.hid (Mem.Blk.new w3 107 #[.map (some m)])
    clear hb HB3 HT3
    go_wp2_with fail
    generalize w3.alloc (.cells #[.map (some m)] 107) = w4 at *
    generalize w3.heap.size = p at *
    have hcz : w4.cell? ⟨p, 0, none⟩ = some (Value.map (some m)) := BZ.out.cell 0
    go_at_call 71
    (with_reducible refine (sortedKeys_bool p m (0 + e.nd) (setD (unsE day fx e)) (plainElem Try.prog 4) w4 BZ.out.lt hcz (by have h := HT4.out; unfold OneM at h; exact h) (by have := HSZ.out; unfold maxLen; omega) (by have := HSZ.out; omega)).mono ?_)
    rintro y w5 ⟨v', ss, rfl, hpm, hrow, -, hb⟩
    have HB5 := Lib.hid (HB4.out.trans (hb.mono HB4.out.size))
    have hfl : ∀ l : List (List UInt8), (l.map (fun s => [encStr s])).flatten = l.map encStr := fun l => by induction l with | nil => rfl | cons x t ih => simp [ih]
    have hml : (ss.mergeSort (fun x y => decide (x ≤ y))).length = ss.length := List.length_mergeSort _
    rw [← hfl] at hrow
    obtain ⟨a', c', rfl, hsl, -⟩ := own_sl (w0 := w4) (X := []) ⟨hb, hrow⟩ (by rw [List.length_map, hml]) (fun c hc => by obtain ⟨s, _, rfl⟩ := List.mem_map.1 hc; rfl) (fun b hb => by cases hb)
    have HFIN : Hid (∃ a c L, Ending.returned (.slice a' ss.length c') = .returned (.slice a L.length c) ∧ SlR strK w5 [] L a L.length c ∧ (rE e = false → L = []) ∧ (rE e = true → L.Perm (Go.strKeys (setD (unsE day fx e))) ∧ L.Pairwise (fun x y => x ≤ y))) := by
      refine ⟨a', c', ss.mergeSort (fun x y => decide (x ≤ y)), by rw [hml], ⟨(ss.mergeSort (fun x y => decide (x ≤ y))).map (fun s => [encStr s]), by rw [List.length_map], fun i x cs hx hc => ?_, by rw [hml]; exact hsl⟩, fun h => (by rw [← HRE'.out] at h; cases h), fun _ => ⟨(List.mergeSort_perm _ _).trans hpm, ?_⟩⟩
      · rw [List.getElem?_map, hx] at hc
        injection hc with hc; exact hc.symm
      · have h := List.pairwise_mergeSort (le := fun x y : List UInt8 => decide (x ≤ y)) (fun a b c h1 h2 => by simp only [decide_eq_true_eq] at *; exact List.le_trans h1 h2) (fun a b => by simp only [Bool.or_eq_true, decide_eq_true_eq]; exact List.le_total a b) ss
        exact h.imp (fun h => of_decide_eq_true h)
    clear hsl hrow hpm hml hfl hb
    go_wp2_with fail
    go_ret
    exact ⟨HFIN.out, HB5.out⟩
end Go.Proofs.Ytppnmeobnilojaa

/- The walk of ObsKnown, for any leaves, fixings and one more. -/
namespace Go.Proofs.Ytppnmeobnilojaa
set_option linter.unusedVariables false
set_option linter.unusedSimpArgs false
open Go.RowKit
theorem seenRt_bool (v : Vl) : ∃ n b, seenRt v = .returned (.tuple #[.int .i64 n, .bool b]) ∧ (b = false → v = .unk ∨ v = .brk ∨ ∃ t, v = .tru t) := by
  cases v with
  | num n => exact ⟨n, true, rfl, fun h => (by cases h)⟩
  | unk => exact ⟨0, false, rfl, fun _ => .inl rfl⟩
  | brk => exact ⟨0, false, rfl, fun _ => .inr (.inl rfl)⟩
  | tru t => exact ⟨0, false, rfl, fun _ => .inr (.inr ⟨t, rfl⟩)⟩
theorem seenV_bool (day : Int) (fx : List Fx) (nm : ByteArray) : ∃ n b, seenRt (seenV day fx nm) = .returned (.tuple #[.int .i64 n, .bool b]) ∧ (b = false → seenV day fx nm = .unk) := by
  obtain ⟨n, b, h1, h2⟩ := seenRt_bool (seenV day fx nm)
  refine ⟨n, b, h1, fun h => ?_⟩
  rcases seen_or day fx nm with h3 | ⟨x, h3⟩
  · exact h3
  · rw [h3] at h1
    injection h1 with h1
    subst h
    simp at h1
set_option maxRecDepth 100000 in
set_option maxHeartbeats 8000000 in
theorem obsKnown_any (lfs : List Lf) (al : Option Addr) (ll cl : Nat) (day : Int) (fx : List Fx) (a : Option Addr) (len cap : Nat) (m : Fx) (w : World) (hl : SlR lfK w [] lfs al ll cl) (hS : SlR fxK w [] fx a len cap) (hd : I64 day) (hm : m.name.size ≤ 9223372036854775807 ∧ I64 m.day ∧ I64 m.val) :
    Calls Try.prog 12 #[.slice al ll cl, .agg #[.int .i64 day, .slice a len cap], .agg #[.string m.name, .int .i64 m.day, .int .i64 m.val]] w fun e w' => e = .returned (.bool true) ∧ Below w.heap.size w w' := by
  have hB0 := Mem.Blk.new w 58 #[.int .i64 day, .slice a len cap]
  have hB1 := Mem.Blk.new (w.alloc (.cells #[.int .i64 day, .slice a len cap] 58)) 82 #[.string m.name, .int .i64 m.day, .int .i64 m.val]
  have e1 : (w.alloc (.cells #[.int .i64 day, .slice a len cap] 58)).heap.size = w.heap.size + 1 := by simp
  rw [e1] at hB1
  have hal := ((Below.refl w.heap.size w).alloc (Nat.le_refl _) (.cells #[.int .i64 day, .slice a len cap] 58)).alloc (by rw [e1]; omega) (.cells #[.string m.name, .int .i64 m.day, .int .i64 m.val] 82)
  have HS0 := Lib.hid (hS.kept (Kept.of_below hal []))
  have HLF := Lib.hid (hl.kept (Kept.of_below hal []))
  have HB0 := Lib.hid hal
  have BX := Lib.hid (hB0.alloc (.cells #[.string m.name, .int .i64 m.day, .int .i64 m.val] 82))
  have BM := Lib.hid hB1
  have HD := Lib.hid hd
  have HM := Lib.hid hm
  have HFL := Lib.hid hS.facts.1
  clear hal hS hl hd hm hB0 hB1 e1
  go_enter Try.func12, Try.ntmps12
  go_upto_region 1 with (fail)
  generalize (w.alloc (.cells #[.int .i64 day, .slice a len cap] 58)).alloc (.cells #[.string m.name, .int .i64 m.day, .int .i64 m.val] 82) = v at *
  obtain ⟨c0, c1, -, -⟩ := BX.out.two
  go_wp2_with fail
  go_at_call 38
  (with_reducible refine (great22_any _ _ _ _ _ _ _ _).mono ?_)
  rintro e w1 ⟨rfl, b1⟩
  have HB1 := Lib.hid (HB0.out.trans (b1.mono HB0.out.size))
  have HS1 := Lib.hid (HS0.out.kept (Kept.of_below b1 []))
  have HL1 := Lib.hid (HLF.out.kept (Kept.of_below b1 []))
  have BX1 := Lib.hid (BX.out.below b1)
  have BM1 := Lib.hid (BM.out.below b1)
  clear b1 HB0 HS0 HLF BX BM c0 c1
  by_cases hg : 60 < ll ∨ 60 < len
  · rw [decide_eq_true hg]
    go_wp2_with fail
    go_at_call 34
    (with_reducible refine (awake22_any _).mono ?_)
    rintro e w9 ⟨rfl, b9⟩
    have HB9 := Lib.hid (HB1.out.trans (b9.mono HB1.out.size))
    clear b9
    go_wp2_with fail
    go_ret
    exact ⟨rfl, HB9.out⟩
  · rw [decide_eq_false hg]
    have hlen : len ≤ 200 := by omega
    clear hg
    go_wp2_with fail
    go_at_call 42
    (with_reducible refine (last22_any lfs al ll cl w1 HL1.out).mono ?_)
    rintro e w2 ⟨hL, b2⟩
    have HB2 := Lib.hid (HB1.out.trans (b2.mono HB1.out.size))
    have HS2 := Lib.hid (HS1.out.kept (Kept.of_below b2 []))
    have BX2 := Lib.hid (BX1.out.below b2)
    have BM2 := Lib.hid (BM1.out.below b2)
    clear b2 HB1 HS1 BX1 BM1 HL1
    rcases hL with ⟨cs, rfl, rfl⟩ | ⟨e, cs, rfl, hR, hr, hk, hrk⟩
    · have HB3 := Lib.hid (HB2.out.alloc HB2.out.size (.cells #[.int .i64 0, .int .i64 0, .string ⟨#[]⟩, .slice none 0 0] 46))
      go_upto_region 4 with (fail)
      generalize w2.alloc (.cells #[.int .i64 0, .int .i64 0, .string ⟨#[]⟩, .slice none 0 0] 46) = v5 at *
      go_wp2_with fail
      go_at_call 34
      (with_reducible refine (awake22_any _).mono ?_)
      rintro e w9 ⟨rfl, b9⟩
      have HB9 := Lib.hid (HB3.out.trans (b9.mono HB3.out.size))
      clear b9
      go_wp2_with fail
      go_ret
      exact ⟨rfl, HB9.out⟩
    · have HRK := Lib.hid hrk
      have HRR := Lib.hid hR
      have HKU := Lib.hid (@known_unk day fx e hr hk)
      have HKT := Lib.hid (@known_ty day fx e hr hk)
      have HKL := Lib.hid (@known_later day fx e m hr hk)
      have HKM := Lib.hid (@known_more day fx e m hr hk)
      have HKI : Hid (kI e = kE e) := by
        show _ = _
        unfold kI; rw [if_pos hr]
      have HREY := Lib.hid hr
      obtain ⟨o5, n5, m5, r5, a5, l5, p5, -, rfl, -, -, -, -⟩ := hR.inv
      have hal := (Below.refl w2.heap.size w2).alloc (Nat.le_refl _) (.cells #[.int .i64 o5, .int .i64 n5, .string m5, .slice a5 l5 p5] 46)
      have HB3 := Lib.hid (HB2.out.trans (hal.mono HB2.out.size))
      have HS3 := Lib.hid (HS2.out.kept (Kept.of_below hal []))
      have BX3 := Lib.hid (BX2.out.below hal)
      have BM3 := Lib.hid (BM2.out.below hal)
      have HR3 := Lib.hid (HRR.out.kept (Kept.of_below hal []))
      have BE3 := Lib.hid (Mem.Blk.new w2 46 #[.int .i64 o5, .int .i64 n5, .string m5, .slice a5 l5 p5])
      clear hR hr hk hrk hal HB2 HS2 BX2 BM2 HRR
      go_upto_region 4 with (fail)
      generalize w2.alloc (.cells #[.int .i64 o5, .int .i64 n5, .string m5, .slice a5 l5 p5] 46) = v3 at *
      generalize w2.heap.size = z at *
      obtain ⟨c0, c1, -, -⟩ := BX3.out.two
      go_wp2_with fail
      go_at_call 36
      (with_reducible refine (envO_any day fx a len cap v3 HS3.out hlen).mono ?_)
      rintro x w5 ⟨⟨av, cav, rfl, csl, hcl, hce, hO⟩, b5⟩
      have hgood := fx_good HS3.out
      rw [csl_map hcl hce] at hO
      have hal := (Below.refl w5.heap.size w5).alloc (Nat.le_refl _) (.cells #[.int .i64 day, .slice av fx.length cav] 63)
      have KS : Hid (KnS v3 _ day fx av fx.length cav w5.heap.size) := ⟨b5.trans (hal.mono b5.size), Mem.Blk.new w5 63 #[.int .i64 day, .slice av fx.length cav], own_below hO hal, b5.size, fun g hg => Nat.ne_of_lt (own_lt hO hg).2, rfl, hgood⟩
      clear hO hcl hce hgood hal b5 c0 c1 HS3
      rw [HFL.out] at KS ⊢
      clear HFL
      go_upto_region 7 with (fail)
      generalize w5.alloc (.cells #[.int .i64 day, .slice av len cav] 63) = v6 at *
      generalize w5.heap.size = z2 at *
      obtain ⟨x0, x1, x2, x3, -, -, -, -⟩ := blk4 (BE3.out.below KS.out.old)
      obtain ⟨e0, e1, -, -⟩ := KS.out.env.two
      go_wp2_with fail
      go_at_call 41
      (with_reducible refine (obsEval_any day fx av _ cav e _ v6 HD.out (HR3.out.kept (Kept.of_below KS.out.old [])) (by have := HRK.out; omega) KS.out.sl).mono ?_)
      rintro x w7 ⟨hx, b7⟩
      unfold RetV at hx
      subst hx
      obtain ⟨A, hA⟩ : ∃ A, A = evalX day fx e := ⟨_, rfl⟩
      rw [← hA] at HKU HKT HKL HKM ⊢
      clear hA
      have hal := (Below.refl w7.heap.size w7).alloc (Nat.le_refl _) (.cells #[.int .i64 A.K, .int .i64 A.N, .bool A.B] 73)
      have bt := b7.trans (hal.mono b7.size)
      have KS7 := Lib.hid (KS.out.up bt)
      have BA7 := Lib.hid (Mem.Blk.new w7 73 #[.int .i64 A.K, .int .i64 A.N, .bool A.B])
      have HZ : Hid (z2 < w7.heap.size ∧ ∀ g, (Value.slice av len cav).ownBlock = some g → g < w7.heap.size) := ⟨Nat.lt_of_lt_of_le KS.out.env.lt b7.size, fun g hg => (own_lt (KS.out.up b7).row hg).2⟩
      clear b7 hal bt x0 x1 x2 x3 e0 e1 KS
      go_upto_region 8 with (fail)
      generalize w7.alloc (.cells #[.int .i64 A.K, .int .i64 A.N, .bool A.B] 73) = v7 at *
      generalize w7.heap.size = z3 at *
      obtain ⟨x0, x1, x2, x3, -, -, -, -⟩ := blk4 (BE3.out.below KS7.out.old)
      obtain ⟨e0, e1, -, -⟩ := KS7.out.env.two
      have HKD := Lib.hid (kindX_any e _ v7 (HR3.out.kept (Kept.of_below KS7.out.old [])) (by have := HRK.out; omega))
      rw [HKI.out] at HKD
      generalize kE e = kk at *
      go_wp2_with fail
      go_at_call 23
      (with_reducible refine HKD.out.mono ?_)
      rintro x w8 ⟨rfl, b8⟩
      have KS8 := Lib.hid (KS7.out.up b8)
      have BA8 := Lib.hid (BA7.out.below b8)
      clear b8 KS7 BA7 HKD HKI x0 x1 x2 x3 e0 e1
      go_upto_region 9 with (fail)
      go_cut [65] (fun p W => p = .bool false ∧ Hid (KnS v3 W day fx av len cav z2) ∧ Hid (Mem.Blk W z3 73 #[.int .i64 A.K, .int .i64 A.N, .bool A.B]))
      case first =>
        clear HKL HKM HD HM BX3 BM3 HB3 HZ
        obtain ⟨x0, x1, x2, x3, -, -, -, -⟩ := blk4 (BE3.out.below KS8.out.old)
        obtain ⟨e0, e1, -, -⟩ := KS8.out.env.two
        have y0 : w8.cell? ⟨z3, 0, none⟩ = some (.int .i64 A.K) := BA8.out.cell 0
        by_cases k0 : A.K = 0
        · have h0 : (A.K == 0) = true := beq_iff_eq.2 k0
          have h1 : (A.K == 1) = false := beq_eq_false_iff_ne.2 (by omega)
          have h2 : (A.K == 2) = false := beq_eq_false_iff_ne.2 (by omega)
          have HU := Lib.hid (HKU.out k0)
          clear HKT HKU k0
          generalize A.K = ka at *
          go_wp2_with fail
          go_at_call 45
          (with_reducible refine (needsX_any day fx av _ cav e _ w8 (HR3.out.kept (Kept.of_below KS8.out.old [])) (by have := HRK.out; omega) KS8.out.sl).mono ?_)
          rintro x w9 ⟨⟨a9, c9, L9, rfl, hs9, -, h92⟩, b9⟩
          have h93 := h92 HREY.out
          have hn : (((L9.length : Nat) : Int) == 0) = false := by
            refine beq_eq_false_iff_ne.2 (fun h => HU.out (putL_none ?_))
            rw [← needs_list h93.1 h93.2]; omega
          have KS9 := Lib.hid (KS8.out.up b9)
          have BA9 := Lib.hid (BA8.out.below b9)
          have y0' : w9.cell? ⟨z3, 0, none⟩ = some (.int .i64 ka) := BA9.out.cell 0
          clear h92 h93 hs9 b9 KS8 BA8 y0 x0 x1 x2 x3 e0 e1 HU
          generalize L9.length = n9 at *
          go_wp2_with fail
          go_meet
          case rel => exact ⟨rfl, KS9, BA9⟩
        · have h0 : (A.K == 0) = false := beq_eq_false_iff_ne.2 k0
          clear HKU x0 x1 x2 x3 e0 e1
          by_cases k1 : A.K = 1
          · have h1 : (A.K == 1) = true := beq_iff_eq.2 k1
            have h2 : (A.K == 2) = false := beq_eq_false_iff_ne.2 (by omega)
            have hk1 : (kk != 1) = false := by have := HKT.out.1 k1; rw [this]; rfl
            clear HKT k0 k1
            generalize A.K = ka at *
            go_wp2_with fail
            go_meet
            case rel => exact ⟨rfl, KS8, BA8⟩
          · have h1 : (A.K == 1) = false := beq_eq_false_iff_ne.2 k1
            by_cases k2 : A.K = 2
            · have h2 : (A.K == 2) = true := beq_iff_eq.2 k2
              have hk2 : (kk != 2) = false := by have := HKT.out.2 k2; rw [this]; rfl
              clear HKT k0 k1 k2
              generalize A.K = ka at *
              go_wp2_with fail
              go_meet
              case rel => exact ⟨rfl, KS8, BA8⟩
            · have h2 : (A.K == 2) = false := beq_eq_false_iff_ne.2 k2
              clear HKT k0 k1 k2
              generalize A.K = ka at *
              go_wp2_with fail
              go_meet
              case rel => exact ⟨rfl, KS8, BA8⟩
      case rest =>
        obtain ⟨rfl, KS9, BA9⟩ := hcut
        obtain ⟨w9, rfl⟩ : ∃ W : World, W = wc := ⟨_, rfl⟩
        clear KS8 BA8 HKT HKU
        go_upto_region 11 with (fail)
        obtain ⟨x0, x1, x2, x3, -, -, -, -⟩ := blk4 (BE3.out.below KS9.out.old)
        obtain ⟨e0, e1, -, -⟩ := KS9.out.env.two
        have y0 : w9.cell? ⟨w.heap.size + 1, 0, none⟩ = some (.string m.name) := (BM3.out.below KS9.out.old).cell 0
        obtain ⟨sn, sb, hsr, hsu⟩ := seenV_bool day fx m.name
        have HSU := Lib.hid (fun h => HKM.out (hsu h))
        have HSC := Lib.hid (seen_any day fx m.name av len cav w9 KS9.out.sl)
        rw [hsr] at HSC
        clear hsr hsu HKM
        go_wp2_with fail
        go_at_call 35
        (with_reducible refine HSC.out.mono ?_)
        rintro x w11 ⟨rfl, b11⟩
        have KS11 := Lib.hid (KS9.out.up b11)
        have BA11 := Lib.hid (BA9.out.below b11)
        clear b11 HSC KS9 BA9 x0 x1 x2 x3 e0 e1 y0
        go_upto_region 12 with (fail)
        obtain ⟨x0, x1, x2, x3, -, -, -, -⟩ := blk4 (BE3.out.below KS11.out.old)
        obtain ⟨e0, e1, -, -⟩ := KS11.out.env.two
        have hbm := blk3 (BM3.out.below KS11.out.old)
        obtain ⟨y0, y1, y2, -, -, -⟩ := hbm
        have hln : len ≤ 200 := hlen
        have hbn := (Below.refl w11.heap.size w11).alloc (Nat.le_refl _) (.cells #[.string m.name, .int .i64 m.day, .int .i64 m.val] 83)
        have HK12 := Lib.hid (KS11.out.up hbn)
        have BA12 := Lib.hid (BA11.out.below hbn)
        clear hbn x0 x1 x2 x3 KS11 BA11
        go_upto_region 13 with (at_builtin; refine ap_row infoF Try.underlying61 rfl (by decide) rfl (.tmp 74) (.tmp 76) rfl rfl HK12.out.row HK12.out.old.size ⟨w11.heap.size, 0, none⟩ 1 1 (fxC m) rfl rfl (lit_cells_at w11 #[.string m.name, .int .i64 m.day, .int .i64 m.val] 83 _ rfl) (by simp [fxC, Value.oneCell']) (by unfold maxLen; omega) (by omega) ?_; intro v' w12 o' g' h'; obtain ⟨⟨m4, m5⟩, a12, c12, rfl, hK⟩ := HK12.out.push HM.out o' g' h'; have KS13 := Lib.hid hK; have HG : Hid ((w11.alloc (.cells #[.string m.name, .int .i64 m.day, .int .i64 m.val] 83)).grownBy w12 (Value.slice av len cav).ownBlock) := g'; clear o' g' h' hK)
        have BA13 := Lib.hid (((fr_own HG.out).blk BA12.out (fun hm => Nat.lt_irrefl _ (HZ.out.2 z3 (by simpa using hm)))).far (p := ⟨z2, 1, none⟩) (by show z3 ≠ z2; have := HZ.out.1; omega) (.slice a12 (len + 1) c12))
        clear HG HK12 BA12 m4 m5 y0 y1 y2 e0 e1
        generalize w12.setCell ⟨z2, 1, none⟩ (.slice a12 (len + 1) c12) = w13 at *
        obtain ⟨x0, x1, x2, x3, -, -, -, -⟩ := blk4 (BE3.out.below KS13.out.old)
        obtain ⟨e0, e1, -, -⟩ := KS13.out.env.two
        go_wp2_with fail
        go_at_call 41
        (with_reducible refine (obsEval_any day (fx ++ [m]) a12 _ c12 e _ w13 HD.out (HR3.out.kept (Kept.of_below KS13.out.old [])) (by have := HRK.out; omega) KS13.out.sl).mono ?_)
        rintro x w14 ⟨hx, b14⟩
        unfold RetV at hx
        subst hx
        generalize evalX day (fx ++ [m]) e = B at *
        have hal := (Below.refl w14.heap.size w14).alloc (Nat.le_refl _) (.cells #[.int .i64 B.K, .int .i64 B.N, .bool B.B] 73)
        have bt := b14.trans (hal.mono b14.size)
        have BX15 := Lib.hid (BX3.out.below (KS13.out.old.trans (bt.mono KS13.out.old.size)))
        have BM15 := Lib.hid (BM3.out.below (KS13.out.old.trans (bt.mono KS13.out.old.size)))
        have HB15 := Lib.hid (HB3.out.trans ((KS13.out.old.trans (bt.mono KS13.out.old.size)).mono HB3.out.size))
        have BA15 := Lib.hid (BA13.out.below bt)
        have BB15 := Lib.hid (Mem.Blk.new w14 73 #[.int .i64 B.K, .int .i64 B.N, .bool B.B])
        clear b14 hal bt x0 x1 x2 x3 e0 e1 KS13 BA13 BX3 BM3 HB3 HR3 BE3 HZ HM HD HRK HREY hlen hln
        go_upto_region 14 with (fail)
        generalize w14.alloc (.cells #[.int .i64 B.K, .int .i64 B.N, .bool B.B] 73) = w15 at *
        generalize w14.heap.size = z4 at *
        obtain ⟨c0, -, -, -⟩ := BX15.out.two
        have y1 : w15.cell? ⟨w.heap.size + 1, 1, none⟩ = some (.int .i64 m.day) := BM15.out.cell 1
        obtain ⟨p0, p1, p2, -, -, -⟩ := blk3 BA15.out
        obtain ⟨q0, q1, q2, -, -, -⟩ := blk3 BB15.out
        go_cut [91] (fun p W => p = .bool false ∧ W = w15)
        case first =>
          by_cases hgt : day < m.day
          · obtain rfl := HKL.out hgt
            clear HKL HSU
            generalize A.K = ka at *
            generalize A.N = na at *
            generalize A.B = ba at *
            go_wp2_with fail
            go_meet
            case rel => exact ⟨rfl, rfl⟩
          · clear HKL HSU
            generalize A.K = ka at *
            generalize A.N = na at *
            generalize A.B = ba at *
            generalize B.K = kb at *
            generalize B.N = nb at *
            generalize B.B = bb at *
            go_wp2_with fail
            go_meet
            case rel => exact ⟨rfl, rfl⟩
        case rest =>
          obtain ⟨rfl, rfl⟩ := hcut
          clear HKL c0 y1 BX15 BM15
          cases sb with
          | true =>
            clear HSU
            generalize A.K = ka at *
            generalize A.N = na at *
            generalize A.B = ba at *
            generalize B.K = kb at *
            generalize B.N = nb at *
            generalize B.B = bb at *
            go_wp2_with fail
            go_at_call 34
            (with_reducible refine (awake22_any _).mono ?_)
            rintro e w9 ⟨rfl, b9⟩
            have HB9 := Lib.hid (HB15.out.trans (b9.mono HB15.out.size))
            clear b9
            go_wp2_with fail
            go_ret
            exact ⟨rfl, HB9.out⟩
          | false =>
            have HSV := Lib.hid (HSU.out rfl)
            clear HSU
            by_cases k0 : A.K = 0
            · have h0 : (A.K == 0) = true := beq_iff_eq.2 k0
              clear HSV
              try clear k0
              try clear k3
              try clear j3
              generalize A.K = ka at *
              generalize A.N = na at *
              generalize A.B = ba at *
              generalize B.K = kb at *
              generalize B.N = nb at *
              generalize B.B = bb at *
              go_wp2_with fail
              go_at_call 34
              (with_reducible refine (awake22_any _).mono ?_)
              rintro e w9 ⟨rfl, b9⟩
              have HB9 := Lib.hid (HB15.out.trans (b9.mono HB15.out.size))
              clear b9
              go_wp2_with fail
              go_ret
              exact ⟨rfl, HB9.out⟩
            · have h0 : (A.K == 0) = false := beq_eq_false_iff_ne.2 k0
              by_cases k3 : A.K = 3
              · have h3 : (A.K == 3) = true := beq_iff_eq.2 k3
                clear HSV
                try clear k0
                try clear k3
                try clear j3
                generalize A.K = ka at *
                generalize A.N = na at *
                generalize A.B = ba at *
                generalize B.K = kb at *
                generalize B.N = nb at *
                generalize B.B = bb at *
                go_wp2_with fail
                go_at_call 34
                (with_reducible refine (awake22_any _).mono ?_)
                rintro e w9 ⟨rfl, b9⟩
                have HB9 := Lib.hid (HB15.out.trans (b9.mono HB15.out.size))
                clear b9
                go_wp2_with fail
                go_ret
                exact ⟨rfl, HB9.out⟩
              · have h3 : (A.K == 3) = false := beq_eq_false_iff_ne.2 k3
                by_cases j3 : B.K = 3
                · have g3 : (B.K == 3) = true := beq_iff_eq.2 j3
                  clear HSV
                  try clear k0
                  try clear k3
                  try clear j3
                  generalize A.K = ka at *
                  generalize A.N = na at *
                  generalize A.B = ba at *
                  generalize B.K = kb at *
                  generalize B.N = nb at *
                  generalize B.B = bb at *
                  go_wp2_with fail
                  go_at_call 34
                  (with_reducible refine (awake22_any _).mono ?_)
                  rintro e w9 ⟨rfl, b9⟩
                  have HB9 := Lib.hid (HB15.out.trans (b9.mono HB15.out.size))
                  clear b9
                  go_wp2_with fail
                  go_ret
                  exact ⟨rfl, HB9.out⟩
                · have g3 : (B.K == 3) = false := beq_eq_false_iff_ne.2 j3
                  obtain rfl : A = B := by
                    rcases HSV.out with h | h | h | h
                    · exact absurd h k0
                    · exact absurd h k3
                    · exact absurd h j3
                    · exact h
                  clear HSV k0 k3 j3
                  generalize A.K = ka at *
                  generalize A.N = na at *
                  generalize A.B = ba at *
                  go_wp2_with fail
                  go_at_call 34
                  (with_reducible refine (awake22_any _).mono ?_)
                  rintro e w9 ⟨rfl, b9⟩
                  have HB9 := Lib.hid (HB15.out.trans (b9.mono HB15.out.size))
                  clear b9
                  go_wp2_with fail
                  go_ret
                  exact ⟨rfl, HB9.out⟩
end Go.Proofs.Ytppnmeobnilojaa
