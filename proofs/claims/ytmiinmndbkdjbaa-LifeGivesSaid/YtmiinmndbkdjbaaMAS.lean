/- A part of the proof: LiO, LiX, one behind another. -/
import Derived.Test.YtmiinmndbkdjbaaMAA
import Derived.Test.YtmiinmndbkdjbaaMAB
import Derived.Test.YtmiinmndbkdjbaaMAC
import Derived.Test.YtmiinmndbkdjbaaMAD
import Derived.Test.YtmiinmndbkdjbaaMAE
import Derived.Test.YtmiinmndbkdjbaaMAF
import Derived.Test.YtmiinmndbkdjbaaMAG
import Derived.Test.YtmiinmndbkdjbaaMAH
import Derived.Test.YtmiinmndbkdjbaaMAI
import Derived.Test.YtmiinmndbkdjbaaMAJ
import Derived.Test.YtmiinmndbkdjbaaMAK
import Derived.Test.YtmiinmndbkdjbaaMAL
import Derived.Test.YtmiinmndbkdjbaaMAM
import Derived.Test.YtmiinmndbkdjbaaMAN
import Derived.Test.YtmiinmndbkdjbaaMAO
import Derived.Test.YtmiinmndbkdjbaaMAQ
import Derived.Test.YtmiinmndbkdjbaaMAR
/- The contract of life.Step. -/
namespace Go.Proofs.Ytmiinmndbkdjbaa
set_option linter.unusedVariables false
set_option linter.unusedSimpArgs false
open Go.RowKit
theorem wait_len {day : Int} {fx : List Fx} {t : Te} (hb : bT t = true) (hop : t.op = 6 ∨ t.op = 7) (V : Vl) (f : Int) (tn : Bool) (un : List Ex) (s : RS) : LenB t.nd s (waitW (acq day fx) V t f tn un s) := by
  obtain ⟨k1, -⟩ := te_kids hb
  obtain ⟨-, n2, n3⟩ := nd_kids hb
  have hm : t0 t ∈ t.terms := by rw [k1 (by omega)]; exact List.mem_cons_self ..
  have ih : ∀ f s, LenB (t0 t).nd s (acq day fx (t0 t) f tn un s) := fun f s => acq_len day fx _ _ (Nat.le_refl _) (bT_kid hb hm) f tn un s
  unfold waitW
  split
  · exact LenB.refl t.nd s
  split
  · exact (ih _ { s with bad := _ }).up (by have := n2 (by omega); omega)
  split
  · exact (ih _ s).up (by have := n2 (by omega); omega)
  · exact LenB.part _ _ n3
theorem endS_len {day : Int} {fx : List Fx} (l : List Ex) (s : RS) (n : Nat) : LenB n s (endS day fx l s) := by rw [endS_eq]; exact LenB.refl n s
theorem stepP_len {day : Int} {fx : List Fx} {p : Prt} (hb : bT p.term = true) (s : RS) : LenB p.term.nd s (stepP day fx s p) := by
  obtain ⟨-, n2, n3⟩ := nd_kids hb
  unfold stepP
  split
  · exact endS_len _ _ _
  split
  · rename_i h6
    exact (endS_len p.til s 0).trans (wait_len hb h6 _ _ _ _ _) (by omega)
  · exact (endS_len p.til s 0).trans (LenB.part (n := p.term.nd) _ p n3) (by omega)
theorem stepL_len {day : Int} {fx : List Fx} {l : List Prt} (hb : ∀ p ∈ l, bT p.term = true) (s : RS) : LenB (ndL l) s (stepL day fx l s) := by
  induction l generalizing s with
  | nil => exact LenB.refl _ _
  | cons p l ih => exact (stepP_len (hb p (List.mem_cons_self ..)) s).trans (ih (fun q hq => hb q (List.mem_cons_of_mem _ hq)) _) (by simp [ndL])
theorem stepL_take {day : Int} {fx : List Fx} {l : List Prt} {k : Nat} {p : Prt} (h : l[k]? = some p) (s : RS) : stepL day fx (l.take (k + 1)) s = stepP day fx (stepL day fx (l.take k) s) p := by
  rw [(ndL_take h).1]; unfold stepL; rw [List.foldl_append]; rfl
theorem partB_get {p : Prt} (h : partB p = true) : (p.term.op = 5 ∨ p.term.op = 6 ∨ p.term.op = 7 ∨ p.term.op = 9) ∧ rT p.term = true ∧ fitT p.term = true ∧ p.til.length ≤ 16 ∧ (∀ e ∈ p.til, kI e = 2) := by
  unfold partB lastB at h
  rw [Bool.and_eq_true, Bool.and_eq_true, Bool.and_eq_true, decide_eq_true_eq, decide_eq_true_eq, decide_eq_true_eq, Bool.not_eq_true', List.any_eq_false] at h
  obtain ⟨⟨⟨h1, h2⟩, h3⟩, h4⟩ := h
  unfold fitC at h2
  split at h2
  · rename_i hr
    split at h2
    · rename_i hf
      exact ⟨h1, hr, hf, h3, fun e he => by have := h4 e he; simpa using this⟩
    · cases h2
  · cases h2
theorem rightP_get {l : List Prt} (h : rightP l = true) : (∀ p ∈ l, partB p = true) ∧ ndL l ≤ 200 := by
  unfold rightP at h
  rw [Bool.and_eq_true, decide_eq_true_eq, List.all_eq_true] at h
  exact h
theorem kI_rk {e : Ex} (h : kI e = 2) : e.rk ≤ 16 := by
  unfold kI at h
  split at h
  · rename_i hr
    have e2 : rE e = (decide (e.nd ≤ 200 ∧ e.rk ≤ 16) && bE e) := rfl
    rw [e2, Bool.and_eq_true, decide_eq_true_eq] at hr
    exact hr.1.2
  · cases h
/-- How deep parts are. -/
def Shal (l : List Prt) : Prop := ∀ p ∈ l, p.term.rk < 1000 ∧ p.til.length ≤ 1000 ∧ ∀ e ∈ p.til, e.rk ≤ 1000
set_option maxRecDepth 100000 in
set_option maxHeartbeats 4000000 in
theorem step_no (day : Int) (fa : Option Addr) (fl fc : Nat) (l : List Prt) (a : Option Addr) (len cap : Nat) (w : World) (hS : SlR ptK w [] l a len cap) (hk : Shal l) (hlen : len ≤ 1000) (hr : rightP l = false) :
    Calls Try.prog 13 #[.slice a len cap, .agg #[.int .i64 day, .slice fa fl fc]] w fun x w' => x = OutE 1 ∧ Below w.heap.size w w' := by
  have HR := Lib.hid (fun W (hW : Below w.heap.size w W) => rightL_any l a len cap W (hS.kept (Kept.of_below hW [])) hk hlen)
  rw [hr] at HR
  have HB := Lib.hid (below_nT w (.cells #[.int .i64 day, .slice fa fl fc] 44))
  clear hS hk hlen hr
  go_enter Try.func13, Try.ntmps13
  go_upto_region 1 with (fail)
  generalize w.alloc (.cells #[.int .i64 day, .slice fa fl fc] 44) = w2 at *
  go_wp2_with fail
  (with_reducible refine (HR.out _ HB.out).mono ?_)
  rintro y w3 ⟨rfl, b3⟩
  have HB3 := Lib.hid (HB.out.trans (b3.mono HB.out.size))
  clear b3 HB HR
  go_wp2_with fail
  go_ret3
  exact ⟨rfl, HB3.out⟩
set_option maxRecDepth 100000 in
set_option maxHeartbeats 8000000 in
theorem step_bad (day : Int) (fx : List Fx) (fa : Option Addr) (fl fc : Nat) (l : List Prt) (a : Option Addr) (len cap : Nat) (w : World) (hd : I64 day) (hF : SlR fxK w [] fx fa fl fc) (hS : SlR ptK w [] l a len cap) (hk : Shal l) (hlen : len ≤ 1000) (hr : rightP l = true) (hbad : (stepL day fx l s0).bad = true) :
    Calls Try.prog 13 #[.slice a len cap, .agg #[.int .i64 day, .slice fa fl fc]] w fun x w' => x = OutE 2 ∧ Below w.heap.size w w' := by
  have HR := Lib.hid (fun W (hW : Below w.heap.size w W) => rightL_any l a len cap W (hS.kept (Kept.of_below hW [])) hk hlen)
  rw [hr] at HR
  have HRP := Lib.hid (rightP_get hr)
  have HBD := Lib.hid hbad
  have HS0 := Lib.hid hS
  have HSS := Lib.hid hF
  have HL := Lib.hid hS.facts.1
  have HD := Lib.hid hd
  have HLN := Lib.hid hlen
  have HB := Lib.hid (below_nT w (.cells #[.int .i64 day, .slice fa fl fc] 44))
  have B1 := Lib.hid (Mem.Blk.new w 44 #[.int .i64 day, .slice fa fl fc])
  clear hS hF hk hlen hr hbad hd
  go_enter Try.func13, Try.ntmps13
  go_upto_region 1 with (fail)
  generalize w.alloc (.cells #[.int .i64 day, .slice fa fl fc] 44) = w2 at *
  go_wp2_with fail
  (with_reducible refine (HR.out _ HB.out).mono ?_)
  rintro y w3 ⟨rfl, b3⟩
  have HB3 := Lib.hid (HB.out.trans (b3.mono HB.out.size))
  have B13 := Lib.hid (B1.out.below b3)
  clear b3 HB HR B1
  obtain ⟨e0, e1, -, -⟩ := B13.out.two
  go_upto_region 3 with (fail)
  have HJ4 := Lib.hid (RunJ.start (day := day) (base := w3.heap.size) (HSS.out.kept (Kept.of_below HB3.out [])) (Nat.le_refl _))
  have b4 := below_nT w3 (.cells #[.int .i64 day, .slice fa fl fc, .slice none 0 0, .slice none 0 0, .bool false] 68)
  have HB4 := Lib.hid (HB3.out.trans (b4.mono HB3.out.size))
  have HS4 : Hid (SlR ptK (w3.alloc (.cells #[.int .i64 day, .slice fa fl fc, .slice none 0 0, .slice none 0 0, .bool false] 68)) (X3 w3.heap.size (.slice none 0 0) (.slice none 0 0)) l a len cap) := by
    have h1 : SlR ptK w3 [w3.heap.size] l a len cap := (HS0.out.kept (Kept.of_below HB3.out [])).less (fun b hb hm => by rw [List.mem_singleton] at hm; omega)
    exact h1.kept (Kept.of_below b4 _)
  have HBS := Lib.hid HB3.out.size
  clear b4
  go_upto_region 4 with (fail)
  obtain ⟨rb, hrb⟩ : ∃ b, b = w3.heap.size := ⟨_, rfl⟩
  generalize w3.alloc (.cells #[.int .i64 day, .slice fa fl fc, .slice none 0 0, .slice none 0 0, .bool false] 68) = w4 at *
  generalize w3.heap.size = rbQ at *
  subst hrb
  clear e0 e1 B13
  go_wp2_with fail
  go_loopw [18] (fun i wr => ∃ (k : Nat) (vP vF : Value), i = .int .i64 (k : Nat) ∧ k ≤ len ∧ Hid (RunTo rb rb day fx fa fl fc w4 wr (.slice none 0 0) (.slice none 0 0) (stepL day fx (l.take k) s0) vP vF)) (fun i _ => len - (intOf i).toNat)
  case atStart => exact ⟨0, _, _, rfl, Nat.zero_le _, HJ4.out.to⟩
  case round =>
    rename World => wr
    obtain ⟨k, vP, vF, rfl, hk, HR9⟩ := hrel
    by_cases hlt : k < len
    · have hlt' : (k : Int) < (len : Int) := by omega
      have k0 : (0 : Int) ≤ (k : Int) := by omega
      have k1 : (k : Int) ≤ 1000 := by have := HLN.out; omega
      obtain ⟨b, o, p, ua, uc, op, nm, xa, xl, xc, ta, tl, tc, ha, -, -, hp, hop, hf, hU, hT, u0, u1, u2, u3, u4, u5, u6⟩ := pt_at (HR9.out.slr HS4.out) k hlt
      obtain ⟨f, tn, un, t⟩ := p
      dsimp only at hop hf hU hT u0 u1 u2
      have hpb := partB_get (HRP.out.1 _ (List.mem_of_getElem? hp))
      dsimp only at hpb
      obtain ⟨ho, hr, hfit, hul, huk⟩ := hpb
      obtain ⟨hnd, hrk, hbt⟩ := rT_get hr
      have hST := stepL_take (day := day) (fx := fx) hp s0
      have hln := stepL_len (day := day) (fx := fx) (l := l.take k) (fun q hq => (rT_get (partB_get (HRP.out.1 q (List.mem_of_mem_take hq))).2.1).2.2) s0
      have hnl := ndL_le l k
      have h200 := HRP.out.2
      have HLT := Lib.hid hlt
      obtain ⟨S1, hS1⟩ : ∃ S, S = stepL day fx (l.take k) s0 := ⟨_, rfl⟩
      rw [← hS1] at HR9 hST hln
      obtain ⟨SN, hSN⟩ : ∃ S, S = stepL day fx (l.take (k + 1)) s0 := ⟨_, rfl⟩
      rw [← hSN] at hST
      have HSN := Lib.hid hSN
      have hen := endS_len (day := day) (fx := fx) un S1 0
      have HPT0 : ptK.R wr (X3 rb vP vF) ⟨f, tn, un, t⟩ [.int .i64 f, .bool tn, .slice ua un.length uc, .int .i64 op, .string nm, .slice xa xl xc, .slice ta tl tc] := ⟨ua, uc, _, rfl, hf, hU, hT⟩
      have HPT := Lib.hid HPT0
      have bn := below_nT wr (.cells #[.int .i64 f, .bool tn, .slice ua un.length uc, .int .i64 op, .string nm, .slice xa xl xc, .slice ta tl tc] 71)
      have BX := Lib.hid (Mem.Blk.new wr 71 #[.int .i64 f, .bool tn, .slice ua un.length uc, .int .i64 op, .string nm, .slice xa xl xc, .slice ta tl tc])
      have HJ5 := Lib.hid (HR9.out.run.below bn)
      have HEN := Lib.hid (ended_any rb rb day fx fa fl fc S1 vP vF un ua un.length uc _ HD.out HJ5.out.run (hU.kept (Kept.of_below bn _)) (fun e he => by have := kI_rk (huk e he); omega) (by omega))
      obtain ⟨s, hs⟩ : ∃ s, s = endS day fx un S1 := ⟨_, rfl⟩
      obtain ⟨EB, hEB⟩ : ∃ s, s = endB day fx un := ⟨_, rfl⟩
      rw [← hs, ← hEB] at HEN
      rw [← hs] at hen
      have HST : Hid (SN = if EB = true ∨ s.bad = true then s else if t.op = 6 ∨ t.op = 7 then waitW (acq day fx) (evalX day fx (x0 t)) t f tn un s else { s with ps := s.ps ++ [⟨f, tn, un, t⟩] }) := by
        show _ = _
        rw [hST, hs, hEB]; rfl
      have HSM : Hid (un.length + t.rk ≤ 1000 ∧ s.ps.length + t.nd ≤ 100000 ∧ s.fs.length + t.nd ≤ 100000) := by
        obtain ⟨g1, g2⟩ := hln
        obtain ⟨g3, g4⟩ := hen
        have g5 : s0.ps.length = 0 := rfl
        have g6 : s0.fs.length = 0 := rfl
        exact ⟨by omega, by omega, by omega⟩
      have HU := Lib.hid hU
      have HT := Lib.hid hT
      have HFI := Lib.hid hf
      have HBT := Lib.hid hbt
      have HOP := Lib.hid hop
      have HO := Lib.hid ho
      have HA := Lib.hid ha
      have HRB : Hid (wr.heap.size ∉ X3 rb vP vF) := fun hm => by have := HR9.out.run.lt _ hm; omega
      clear hp hop ho hr hfit hul huk hnd hrk hbt hST hln hnl h200 hlt hS1 hSN hen HPT0 bn hs hEB hU hT hf
      subst ha
      go_upto_region 7 with (fail)
      generalize wr.alloc (.cells #[.int .i64 f, .bool tn, .slice ua un.length uc, .int .i64 op, .string nm, .slice xa xl xc, .slice ta tl tc] 71) = w5 at *
      obtain ⟨pb, hpb⟩ : ∃ b, b = wr.heap.size := ⟨_, rfl⟩
      rw [← hpb] at HRB BX
      rw [show Value.pointer (some ⟨wr.heap.size, 0, none⟩) = .pointer (some ⟨pb, 0, none⟩) by rw [hpb]]
      clear hpb
      clear u0 u1 u2 u3 u4 u5 u6
      obtain ⟨c0, c1, c2, c3, c4, c5, c6⟩ := blk7 BX.out
      go_wp2_with fail
      go_at_call 28
      (with_reducible refine HEN.out.mono ?_)
      rintro y w6 ⟨rfl, ht⟩
      have HJ6 := Lib.hid (HJ5.out.trans ht)
      have BP6 := Lib.hid (ht.fr.blk BX.out HRB.out)
      clear ht HEN HJ5 BX c0 c1 c2 c3 c4 c5 c6
      have q4 : w6.cell? ⟨rb, 4, none⟩ = some (.bool s.bad) := HJ6.out.run.cells.cell 4
      cases EB with
      | true =>
        have HE : Hid (SN = s) := HST.out.trans (if_pos (.inl rfl))
        go_wp2_with fail
        go_roundw
        case rel => exact ⟨k + 1, vP, vF, by go_num, by have := HLT.out; omega, by rw [← HSN.out, HE.out]; exact HR9.out.trans HJ6.out⟩
        case measure => simp [intOf]; have := HLT.out; omega
      | false =>
        obtain ⟨bd, hbd⟩ : ∃ b, b = s.bad := ⟨_, rfl⟩
        rw [← hbd] at q4 HST
        cases bd with
        | true =>
          have HE : Hid (SN = s) := HST.out.trans (if_pos (.inr rfl))
          clear hbd
          go_wp2_with fail
          go_roundw
          case rel => exact ⟨k + 1, vP, vF, by go_num, by have := HLT.out; omega, by rw [← HSN.out, HE.out]; exact HR9.out.trans HJ6.out⟩
          case measure => simp [intOf]; have := HLT.out; omega
        | false =>
          have HST2 := Lib.hid (HST.out.trans (if_neg (by simp)))
          have HBF : Hid (s.bad = false) := hbd.symm
          clear hbd HST
          obtain ⟨c0, c1, c2, c3, c4, c5, c6⟩ := blk7 BP6.out
          rcases HO.out with h5 | h6 | h7 | h9
          · obtain rfl : op = 5 := HOP.out.trans h5
            have HE : Hid (SN = { s with ps := s.ps ++ [⟨f, tn, un, t⟩] }) := by
              show SN = ⟨s.ps ++ [⟨f, tn, un, t⟩], s.fs, s.bad⟩
              rw [HBF.out]; exact HST2.out.trans (if_neg (by omega))
            clear h5
            go_upto_region 9 with (fail)
            clear c0 c1 c2 c3 c4 c5 c6 q4
            have d1 : w6.cell? ⟨rb, 2, none⟩ = some vP := HJ6.out.run.cells.cell 2
            obtain ⟨c0, c1, c2, c3, c4, c5, c6⟩ := blk7 BP6.out
            refine wp_region_any (by kernel_rfl) ?_
            refine any_take (i := 0) (v := ?_) rfl (by kernel_rfl) (fun _ _ _ h => h) (Or.inl ⟨by rfl, ?_⟩) ?_
            rotate_left
            · intro W
              go_simp
              try with_reducible rfl
            try simp only [Act.put, List.getElem_toArray, List.getElem_cons_zero, List.getElem_cons_succ, List.setIfInBounds_toArray, List.set_cons_zero, List.set_cons_succ]
            refine any_of_till (n := 7) (S := fun W => W.cell? ⟨rb, 2, none⟩ = some vP ∧ W.cell? ⟨pb, 0, none⟩ = some (.int .i64 f) ∧ W.cell? ⟨pb, 1, none⟩ = some (.bool tn) ∧ W.cell? ⟨pb, 2, none⟩ = some (.slice ua un.length uc) ∧ W.cell? ⟨pb, 3, none⟩ = some (.int .i64 5) ∧ W.cell? ⟨pb, 4, none⟩ = some (.string nm) ∧ W.cell? ⟨pb, 5, none⟩ = some (.slice xa xl xc) ∧ W.cell? ⟨pb, 6, none⟩ = some (.slice ta tl tc)) _ _ _ _ ?_
            refine till_take (i := 1) (v := ?_) rfl (by kernel_rfl) (fun _ _ _ h => h) (Or.inl ⟨by rfl, ?_⟩) ⟨d1,c0,c1,c2,c3,c4,c5,c6⟩ ?_
            rotate_left
            · intro W hS
              try dsimp only at hS
              go_split_ands
              go_simp
              try with_reducible rfl
            try simp only [Act.put, List.getElem_toArray, List.getElem_cons_zero, List.getElem_cons_succ, List.setIfInBounds_toArray, List.set_cons_zero, List.set_cons_succ]
            refine till_take (i := 2) (v := ?_) rfl (by kernel_rfl) (fun _ _ _ h => h) (Or.inl ⟨by rfl, ?_⟩) ⟨d1,c0,c1,c2,c3,c4,c5,c6⟩ ?_
            rotate_left
            · intro W hS
              try dsimp only at hS
              go_split_ands
              go_simp
              try with_reducible rfl
            try simp only [Act.put, List.getElem_toArray, List.getElem_cons_zero, List.getElem_cons_succ, List.setIfInBounds_toArray, List.set_cons_zero, List.set_cons_succ]
            refine till_take (i := 3) (v := ?_) rfl (by kernel_rfl) (fun _ _ _ h => h) (Or.inl ⟨by rfl, ?_⟩) ⟨d1,c0,c1,c2,c3,c4,c5,c6⟩ ?_
            rotate_left
            · intro W hS
              try dsimp only at hS
              go_split_ands
              go_simp
              try with_reducible rfl
            try simp only [Act.put, List.getElem_toArray, List.getElem_cons_zero, List.getElem_cons_succ, List.setIfInBounds_toArray, List.set_cons_zero, List.set_cons_succ]
            refine till_take (i := 4) (v := ?_) rfl (by kernel_rfl) (fun _ _ _ h => h) (Or.inl ⟨by rfl, ?_⟩) ⟨d1,c0,c1,c2,c3,c4,c5,c6⟩ ?_
            rotate_left
            · intro W hS
              try dsimp only at hS
              go_split_ands
              go_simp
              try with_reducible rfl
            try simp only [Act.put, List.getElem_toArray, List.getElem_cons_zero, List.getElem_cons_succ, List.setIfInBounds_toArray, List.set_cons_zero, List.set_cons_succ]
            refine till_take (i := 5) (v := ?_) rfl (by kernel_rfl) (fun _ _ _ h => h) (Or.inl ⟨by rfl, ?_⟩) ⟨d1,c0,c1,c2,c3,c4,c5,c6⟩ ?_
            rotate_left
            · intro W hS
              try dsimp only at hS
              go_split_ands
              go_simp
              try with_reducible rfl
            try simp only [Act.put, List.getElem_toArray, List.getElem_cons_zero, List.getElem_cons_succ, List.setIfInBounds_toArray, List.set_cons_zero, List.set_cons_succ]
            refine till_one (i := 6) (by kernel_rfl) rfl (fun K' hK => ?_)
            go_simp
            have hbn : Below w6.heap.size w6 (w6.alloc (.cells #[.int .i64 f, .bool tn, .slice ua un.length uc, .int .i64 5, .string nm, .slice xa xl xc, .slice ta tl tc] 71)).drew := (below_nT w6 (.cells #[.int .i64 f, .bool tn, .slice ua un.length uc, .int .i64 5, .string nm, .slice xa xl xc, .slice ta tl tc] 71)).drew
            have HB2 := Lib.hid (HJ6.out.trans (HJ6.out.run.below hbn))
            have BZ := Lib.hid (Mem.Blk.new w6 71 #[.int .i64 f, .bool tn, .slice ua un.length uc, .int .i64 5, .string nm, .slice xa xl xc, .slice ta tl tc]).drew
            refine hK _ _ ⟨cell_up d1 hbn, cell_up c0 hbn, cell_up c1 hbn, cell_up c2 hbn, cell_up c3 hbn, cell_up c4 hbn, cell_up c5 hbn, cell_up c6 hbn⟩ ?_
            clear hK K' hbn d1 c0 c1 c2 c3 c4 c5 c6
            generalize (w6.alloc (.cells #[.int .i64 f, .bool tn, .slice ua un.length uc, .int .i64 5, .string nm, .slice xa xl xc, .slice ta tl tc] 71)).drew = w5 at *
            generalize w6.heap.size = zz at *
            try simp only [Act.put, List.getElem_toArray, List.getElem_cons_zero, List.getElem_cons_succ, List.setIfInBounds_toArray, List.set_cons_zero, List.set_cons_succ]
            refine till_last (by kernel_rfl) rfl (by kernel_rfl) (fun K' hK => ?_)
            obtain ⟨csl, hGr⟩ := HB2.out.run.sep.at 0 rfl
            have hRp := HB2.out.rep (K := ptK) HPT.out
            refine step_ap infoPt Try.underlying37 rfl (by decide) rfl (.tmp 39) (.tmp 41) rfl rfl hGr.own hGr.room ⟨zz, 0, none⟩ 1 1 [.int .i64 f, .bool tn, .slice ua un.length uc, .int .i64 5, .string nm, .slice xa xl xc, .slice ta tl tc] rfl rfl (fun m u hm => by rw [Mem.add0, BZ.out.cell]; simpa using hm) (by simp [Value.oneCell']) (by have := HSM.out; unfold maxLen; omega) (by have := HSM.out; omega) ?_
            intro v' w6 og gg hv'
            obtain ⟨gP, capn, rfl, -, -, -, -⟩ := own_form og (by omega)
            have MB := (HB2.out.run.sep.push 0 rfl hGr (x := ⟨f, tn, un, t⟩) (c := [.int .i64 f, .bool tn, .slice ua un.length uc, .int .i64 5, .string nm, .slice xa xl xc, .slice ta tl tc]) (by rw [owns_famR]; exact hRp) og gg hv').blk 2 rfl
            have m4 : w6.cell? ⟨rb, 2, none⟩ = some vP := MB.cell 2
            have m5 : w6.frozen? ⟨rb, 2, none⟩ = false := MB.frozen 2
            have HB3 := Lib.hid (HB2.out.trans (HB2.out.run.pushP hGr (x := ⟨f, tn, un, t⟩) (c := [.int .i64 f, .bool tn, .slice ua un.length uc, .int .i64 5, .string nm, .slice xa xl xc, .slice ta tl tc]) hRp og gg hv'))
            clear HB2 hGr og gg hv' BZ hRp MB
            refine hK _ _ ?_
            clear hK K'
            try simp only [Act.put, List.getElem_toArray, List.getElem_cons_zero, List.getElem_cons_succ, List.setIfInBounds_toArray, List.set_cons_zero, List.set_cons_succ]
            refine any_take (i := 8) (v := ?_) rfl (by kernel_rfl) (fun _ _ _ h => h) (Or.inl ⟨by rfl, ?_⟩) ?_
            rotate_left
            · intro W
              go_simp
              try with_reducible rfl
            try simp only [Act.put, List.getElem_toArray, List.getElem_cons_zero, List.getElem_cons_succ, List.setIfInBounds_toArray, List.set_cons_zero, List.set_cons_succ]
            refine any_take (i := 9) (v := ?_) rfl (by kernel_rfl) (fun _ _ _ h => h) (Or.inl ⟨by rfl, ?_⟩) ?_
            rotate_left
            · intro W
              go_simp
              try with_reducible rfl
            try simp only [Act.put, List.getElem_toArray, List.getElem_cons_zero, List.getElem_cons_succ, List.setIfInBounds_toArray, List.set_cons_zero, List.set_cons_succ]
            refine any_one (i := 10) (by kernel_rfl) rfl (fun K' hK => ?_)
            go_simp
            refine hK _ _ ?_
            clear hK K' m4 m5
            refine wpAny_done (by kernel_rfl) ?_ _
            go_wp2_with fail
            go_roundw
            case rel => exact ⟨k + 1, _, vF, by go_num, by have := HLT.out; omega, by rw [← HSN.out, HE.out]; exact HR9.out.trans HB3.out⟩
            case measure => simp [intOf]; have := HLT.out; omega
          · obtain rfl : op = 6 := HOP.out.trans h6
            have HE := Lib.hid (HST2.out.trans (if_pos (.inl h6)))
            have HOQ : Hid (t.op = 6 ∨ t.op = 7) := .inl h6
            have HT6 : Hid (RepT w6 (X3 rb vP vF) t [.int .i64 6, .string nm, .slice xa xl xc, .slice ta tl tc]) := HJ6.out.rep (K := teK) (x := t) HT.out
            have HWT := Lib.hid (wait_any rb rb day fx fa fl fc t f tn un s vP vF ua uc _ w6 HD.out HFI.out HJ6.out.run HT6.out (HJ6.out.slr (K := exK) HU.out) HBT.out HOQ.out HSM.out.1 HSM.out.2.1 HSM.out.2.2 (acquire_any rb rb day fx fa fl fc HD.out _ (t0 t) (Nat.le_refl _) (by
              obtain ⟨g1, -⟩ := te_kids HBT.out
              have hoo := HOQ.out
              exact bT_kid HBT.out (by rw [g1 (by omega)]; exact List.mem_cons_self ..))))
            clear HT6 h6
            go_wp2_with fail
            go_at_call 29
            (with_reducible refine HWT.out.mono ?_)
            rintro y w7 ⟨rfl, vP', vF', hR9⟩
            have HR7 := Lib.hid (HJ6.out.trans hR9)
            clear hR9 HWT c0 c1 c2 c3 c4 c5 c6 q4
            go_wp2_with fail
            go_roundw
            case rel => exact ⟨k + 1, vP', vF', by go_num, by have := HLT.out; omega, by rw [← HSN.out, HE.out]; exact HR9.out.trans HR7.out⟩
            case measure => simp [intOf]; have := HLT.out; omega
          · obtain rfl : op = 7 := HOP.out.trans h7
            have HE := Lib.hid (HST2.out.trans (if_pos (.inr h7)))
            have HOQ : Hid (t.op = 6 ∨ t.op = 7) := .inr h7
            have HT6 : Hid (RepT w6 (X3 rb vP vF) t [.int .i64 7, .string nm, .slice xa xl xc, .slice ta tl tc]) := HJ6.out.rep (K := teK) (x := t) HT.out
            have HWT := Lib.hid (wait_any rb rb day fx fa fl fc t f tn un s vP vF ua uc _ w6 HD.out HFI.out HJ6.out.run HT6.out (HJ6.out.slr (K := exK) HU.out) HBT.out HOQ.out HSM.out.1 HSM.out.2.1 HSM.out.2.2 (acquire_any rb rb day fx fa fl fc HD.out _ (t0 t) (Nat.le_refl _) (by
              obtain ⟨g1, -⟩ := te_kids HBT.out
              have hoo := HOQ.out
              exact bT_kid HBT.out (by rw [g1 (by omega)]; exact List.mem_cons_self ..))))
            clear HT6 h7
            go_wp2_with fail
            go_at_call 29
            (with_reducible refine HWT.out.mono ?_)
            rintro y w7 ⟨rfl, vP', vF', hR9⟩
            have HR7 := Lib.hid (HJ6.out.trans hR9)
            clear hR9 HWT c0 c1 c2 c3 c4 c5 c6 q4
            go_wp2_with fail
            go_roundw
            case rel => exact ⟨k + 1, vP', vF', by go_num, by have := HLT.out; omega, by rw [← HSN.out, HE.out]; exact HR9.out.trans HR7.out⟩
            case measure => simp [intOf]; have := HLT.out; omega
          · obtain rfl : op = 9 := HOP.out.trans h9
            have HE : Hid (SN = { s with ps := s.ps ++ [⟨f, tn, un, t⟩] }) := by
              show SN = ⟨s.ps ++ [⟨f, tn, un, t⟩], s.fs, s.bad⟩
              rw [HBF.out]; exact HST2.out.trans (if_neg (by omega))
            clear h9
            go_upto_region 9 with (fail)
            clear c0 c1 c2 c3 c4 c5 c6 q4
            have d1 : w6.cell? ⟨rb, 2, none⟩ = some vP := HJ6.out.run.cells.cell 2
            obtain ⟨c0, c1, c2, c3, c4, c5, c6⟩ := blk7 BP6.out
            refine wp_region_any (by kernel_rfl) ?_
            refine any_take (i := 0) (v := ?_) rfl (by kernel_rfl) (fun _ _ _ h => h) (Or.inl ⟨by rfl, ?_⟩) ?_
            rotate_left
            · intro W
              go_simp
              try with_reducible rfl
            try simp only [Act.put, List.getElem_toArray, List.getElem_cons_zero, List.getElem_cons_succ, List.setIfInBounds_toArray, List.set_cons_zero, List.set_cons_succ]
            refine any_of_till (n := 7) (S := fun W => W.cell? ⟨rb, 2, none⟩ = some vP ∧ W.cell? ⟨pb, 0, none⟩ = some (.int .i64 f) ∧ W.cell? ⟨pb, 1, none⟩ = some (.bool tn) ∧ W.cell? ⟨pb, 2, none⟩ = some (.slice ua un.length uc) ∧ W.cell? ⟨pb, 3, none⟩ = some (.int .i64 9) ∧ W.cell? ⟨pb, 4, none⟩ = some (.string nm) ∧ W.cell? ⟨pb, 5, none⟩ = some (.slice xa xl xc) ∧ W.cell? ⟨pb, 6, none⟩ = some (.slice ta tl tc)) _ _ _ _ ?_
            refine till_take (i := 1) (v := ?_) rfl (by kernel_rfl) (fun _ _ _ h => h) (Or.inl ⟨by rfl, ?_⟩) ⟨d1,c0,c1,c2,c3,c4,c5,c6⟩ ?_
            rotate_left
            · intro W hS
              try dsimp only at hS
              go_split_ands
              go_simp
              try with_reducible rfl
            try simp only [Act.put, List.getElem_toArray, List.getElem_cons_zero, List.getElem_cons_succ, List.setIfInBounds_toArray, List.set_cons_zero, List.set_cons_succ]
            refine till_take (i := 2) (v := ?_) rfl (by kernel_rfl) (fun _ _ _ h => h) (Or.inl ⟨by rfl, ?_⟩) ⟨d1,c0,c1,c2,c3,c4,c5,c6⟩ ?_
            rotate_left
            · intro W hS
              try dsimp only at hS
              go_split_ands
              go_simp
              try with_reducible rfl
            try simp only [Act.put, List.getElem_toArray, List.getElem_cons_zero, List.getElem_cons_succ, List.setIfInBounds_toArray, List.set_cons_zero, List.set_cons_succ]
            refine till_take (i := 3) (v := ?_) rfl (by kernel_rfl) (fun _ _ _ h => h) (Or.inl ⟨by rfl, ?_⟩) ⟨d1,c0,c1,c2,c3,c4,c5,c6⟩ ?_
            rotate_left
            · intro W hS
              try dsimp only at hS
              go_split_ands
              go_simp
              try with_reducible rfl
            try simp only [Act.put, List.getElem_toArray, List.getElem_cons_zero, List.getElem_cons_succ, List.setIfInBounds_toArray, List.set_cons_zero, List.set_cons_succ]
            refine till_take (i := 4) (v := ?_) rfl (by kernel_rfl) (fun _ _ _ h => h) (Or.inl ⟨by rfl, ?_⟩) ⟨d1,c0,c1,c2,c3,c4,c5,c6⟩ ?_
            rotate_left
            · intro W hS
              try dsimp only at hS
              go_split_ands
              go_simp
              try with_reducible rfl
            try simp only [Act.put, List.getElem_toArray, List.getElem_cons_zero, List.getElem_cons_succ, List.setIfInBounds_toArray, List.set_cons_zero, List.set_cons_succ]
            refine till_take (i := 5) (v := ?_) rfl (by kernel_rfl) (fun _ _ _ h => h) (Or.inl ⟨by rfl, ?_⟩) ⟨d1,c0,c1,c2,c3,c4,c5,c6⟩ ?_
            rotate_left
            · intro W hS
              try dsimp only at hS
              go_split_ands
              go_simp
              try with_reducible rfl
            try simp only [Act.put, List.getElem_toArray, List.getElem_cons_zero, List.getElem_cons_succ, List.setIfInBounds_toArray, List.set_cons_zero, List.set_cons_succ]
            refine till_one (i := 6) (by kernel_rfl) rfl (fun K' hK => ?_)
            go_simp
            have hbn : Below w6.heap.size w6 (w6.alloc (.cells #[.int .i64 f, .bool tn, .slice ua un.length uc, .int .i64 9, .string nm, .slice xa xl xc, .slice ta tl tc] 71)).drew := (below_nT w6 (.cells #[.int .i64 f, .bool tn, .slice ua un.length uc, .int .i64 9, .string nm, .slice xa xl xc, .slice ta tl tc] 71)).drew
            have HB2 := Lib.hid (HJ6.out.trans (HJ6.out.run.below hbn))
            have BZ := Lib.hid (Mem.Blk.new w6 71 #[.int .i64 f, .bool tn, .slice ua un.length uc, .int .i64 9, .string nm, .slice xa xl xc, .slice ta tl tc]).drew
            refine hK _ _ ⟨cell_up d1 hbn, cell_up c0 hbn, cell_up c1 hbn, cell_up c2 hbn, cell_up c3 hbn, cell_up c4 hbn, cell_up c5 hbn, cell_up c6 hbn⟩ ?_
            clear hK K' hbn d1 c0 c1 c2 c3 c4 c5 c6
            generalize (w6.alloc (.cells #[.int .i64 f, .bool tn, .slice ua un.length uc, .int .i64 9, .string nm, .slice xa xl xc, .slice ta tl tc] 71)).drew = w5 at *
            generalize w6.heap.size = zz at *
            try simp only [Act.put, List.getElem_toArray, List.getElem_cons_zero, List.getElem_cons_succ, List.setIfInBounds_toArray, List.set_cons_zero, List.set_cons_succ]
            refine till_last (by kernel_rfl) rfl (by kernel_rfl) (fun K' hK => ?_)
            obtain ⟨csl, hGr⟩ := HB2.out.run.sep.at 0 rfl
            have hRp := HB2.out.rep (K := ptK) HPT.out
            refine step_ap infoPt Try.underlying37 rfl (by decide) rfl (.tmp 39) (.tmp 41) rfl rfl hGr.own hGr.room ⟨zz, 0, none⟩ 1 1 [.int .i64 f, .bool tn, .slice ua un.length uc, .int .i64 9, .string nm, .slice xa xl xc, .slice ta tl tc] rfl rfl (fun m u hm => by rw [Mem.add0, BZ.out.cell]; simpa using hm) (by simp [Value.oneCell']) (by have := HSM.out; unfold maxLen; omega) (by have := HSM.out; omega) ?_
            intro v' w6 og gg hv'
            obtain ⟨gP, capn, rfl, -, -, -, -⟩ := own_form og (by omega)
            have MB := (HB2.out.run.sep.push 0 rfl hGr (x := ⟨f, tn, un, t⟩) (c := [.int .i64 f, .bool tn, .slice ua un.length uc, .int .i64 9, .string nm, .slice xa xl xc, .slice ta tl tc]) (by rw [owns_famR]; exact hRp) og gg hv').blk 2 rfl
            have m4 : w6.cell? ⟨rb, 2, none⟩ = some vP := MB.cell 2
            have m5 : w6.frozen? ⟨rb, 2, none⟩ = false := MB.frozen 2
            have HB3 := Lib.hid (HB2.out.trans (HB2.out.run.pushP hGr (x := ⟨f, tn, un, t⟩) (c := [.int .i64 f, .bool tn, .slice ua un.length uc, .int .i64 9, .string nm, .slice xa xl xc, .slice ta tl tc]) hRp og gg hv'))
            clear HB2 hGr og gg hv' BZ hRp MB
            refine hK _ _ ?_
            clear hK K'
            try simp only [Act.put, List.getElem_toArray, List.getElem_cons_zero, List.getElem_cons_succ, List.setIfInBounds_toArray, List.set_cons_zero, List.set_cons_succ]
            refine any_take (i := 8) (v := ?_) rfl (by kernel_rfl) (fun _ _ _ h => h) (Or.inl ⟨by rfl, ?_⟩) ?_
            rotate_left
            · intro W
              go_simp
              try with_reducible rfl
            try simp only [Act.put, List.getElem_toArray, List.getElem_cons_zero, List.getElem_cons_succ, List.setIfInBounds_toArray, List.set_cons_zero, List.set_cons_succ]
            refine any_take (i := 9) (v := ?_) rfl (by kernel_rfl) (fun _ _ _ h => h) (Or.inl ⟨by rfl, ?_⟩) ?_
            rotate_left
            · intro W
              go_simp
              try with_reducible rfl
            try simp only [Act.put, List.getElem_toArray, List.getElem_cons_zero, List.getElem_cons_succ, List.setIfInBounds_toArray, List.set_cons_zero, List.set_cons_succ]
            refine any_one (i := 10) (by kernel_rfl) rfl (fun K' hK => ?_)
            go_simp
            refine hK _ _ ?_
            clear hK K' m4 m5
            refine wpAny_done (by kernel_rfl) ?_ _
            go_wp2_with fail
            go_roundw
            case rel => exact ⟨k + 1, _, vF, by go_num, by have := HLT.out; omega, by rw [← HSN.out, HE.out]; exact HR9.out.trans HB3.out⟩
            case measure => simp [intOf]; have := HLT.out; omega
    · have hlt' : ¬ (k : Int) < (len : Int) := by omega
      obtain rfl : k = len := by omega
      rw [List.take_of_length_le (by rw [HL.out]; omega)] at HR9
      have HB6 : Hid (Below w.heap.size w wr) := HB4.out.trans (HR9.out.fr.below (B := w.heap.size) HB4.out.size (fun b hb => by
        rw [X3_nil, List.mem_singleton] at hb
        have := HBS.out; omega))
      clear hlt
      have HTL := Lib.hid (told_bad rb rb day fx fa fl fc _ vP vF wr HR9.out.run HBD.out)
      go_wp2_with fail
      go_at_call 23
      (with_reducible refine HTL.out.mono ?_)
      rintro y w7 ⟨rfl, b7⟩
      have HB7 := Lib.hid (HB6.out.trans (b7.mono HB6.out.size))
      clear b7 HTL
      go_wp2_with fail
      go_ret3
      exact ⟨rfl, HB7.out⟩
set_option maxRecDepth 100000 in
set_option maxHeartbeats 8000000 in
theorem step_ok (day : Int) (fx : List Fx) (fa : Option Addr) (fl fc : Nat) (l : List Prt) (a : Option Addr) (len cap : Nat) (w : World) (hd : I64 day) (hF : SlR fxK w [] fx fa fl fc) (hS : SlR ptK w [] l a len cap) (hk : Shal l) (hlen : len ≤ 1000) (hr : rightP l = true) (hbad : (stepL day fx l s0).bad = false) :
    Calls Try.prog 13 #[.slice a len cap, .agg #[.int .i64 day, .slice fa fl fc]] w fun x w' => OutS w' (stepL day fx l s0) x ∧ Below w.heap.size w w' := by
  have HR := Lib.hid (fun W (hW : Below w.heap.size w W) => rightL_any l a len cap W (hS.kept (Kept.of_below hW [])) hk hlen)
  rw [hr] at HR
  have HRP := Lib.hid (rightP_get hr)
  have HBD := Lib.hid hbad
  have HS0 := Lib.hid hS
  have HSS := Lib.hid hF
  have HL := Lib.hid hS.facts.1
  have HD := Lib.hid hd
  have HLN := Lib.hid hlen
  have HB := Lib.hid (below_nT w (.cells #[.int .i64 day, .slice fa fl fc] 44))
  have B1 := Lib.hid (Mem.Blk.new w 44 #[.int .i64 day, .slice fa fl fc])
  clear hS hF hk hlen hr hbad hd
  go_enter Try.func13, Try.ntmps13
  go_upto_region 1 with (fail)
  generalize w.alloc (.cells #[.int .i64 day, .slice fa fl fc] 44) = w2 at *
  go_wp2_with fail
  (with_reducible refine (HR.out _ HB.out).mono ?_)
  rintro y w3 ⟨rfl, b3⟩
  have HB3 := Lib.hid (HB.out.trans (b3.mono HB.out.size))
  have B13 := Lib.hid (B1.out.below b3)
  clear b3 HB HR B1
  obtain ⟨e0, e1, -, -⟩ := B13.out.two
  go_upto_region 3 with (fail)
  have HJ4 := Lib.hid (RunJ.start (day := day) (base := w3.heap.size) (HSS.out.kept (Kept.of_below HB3.out [])) (Nat.le_refl _))
  have b4 := below_nT w3 (.cells #[.int .i64 day, .slice fa fl fc, .slice none 0 0, .slice none 0 0, .bool false] 68)
  have HB4 := Lib.hid (HB3.out.trans (b4.mono HB3.out.size))
  have HS4 : Hid (SlR ptK (w3.alloc (.cells #[.int .i64 day, .slice fa fl fc, .slice none 0 0, .slice none 0 0, .bool false] 68)) (X3 w3.heap.size (.slice none 0 0) (.slice none 0 0)) l a len cap) := by
    have h1 : SlR ptK w3 [w3.heap.size] l a len cap := (HS0.out.kept (Kept.of_below HB3.out [])).less (fun b hb hm => by rw [List.mem_singleton] at hm; omega)
    exact h1.kept (Kept.of_below b4 _)
  have HBS := Lib.hid HB3.out.size
  clear b4
  go_upto_region 4 with (fail)
  obtain ⟨rb, hrb⟩ : ∃ b, b = w3.heap.size := ⟨_, rfl⟩
  generalize w3.alloc (.cells #[.int .i64 day, .slice fa fl fc, .slice none 0 0, .slice none 0 0, .bool false] 68) = w4 at *
  generalize w3.heap.size = rbQ at *
  subst hrb
  clear e0 e1 B13
  go_wp2_with fail
  go_loopw [18] (fun i wr => ∃ (k : Nat) (vP vF : Value), i = .int .i64 (k : Nat) ∧ k ≤ len ∧ Hid (RunTo rb rb day fx fa fl fc w4 wr (.slice none 0 0) (.slice none 0 0) (stepL day fx (l.take k) s0) vP vF)) (fun i _ => len - (intOf i).toNat)
  case atStart => exact ⟨0, _, _, rfl, Nat.zero_le _, HJ4.out.to⟩
  case round =>
    rename World => wr
    obtain ⟨k, vP, vF, rfl, hk, HR9⟩ := hrel
    by_cases hlt : k < len
    · have hlt' : (k : Int) < (len : Int) := by omega
      have k0 : (0 : Int) ≤ (k : Int) := by omega
      have k1 : (k : Int) ≤ 1000 := by have := HLN.out; omega
      obtain ⟨b, o, p, ua, uc, op, nm, xa, xl, xc, ta, tl, tc, ha, -, -, hp, hop, hf, hU, hT, u0, u1, u2, u3, u4, u5, u6⟩ := pt_at (HR9.out.slr HS4.out) k hlt
      obtain ⟨f, tn, un, t⟩ := p
      dsimp only at hop hf hU hT u0 u1 u2
      have hpb := partB_get (HRP.out.1 _ (List.mem_of_getElem? hp))
      dsimp only at hpb
      obtain ⟨ho, hr, hfit, hul, huk⟩ := hpb
      obtain ⟨hnd, hrk, hbt⟩ := rT_get hr
      have hST := stepL_take (day := day) (fx := fx) hp s0
      have hln := stepL_len (day := day) (fx := fx) (l := l.take k) (fun q hq => (rT_get (partB_get (HRP.out.1 q (List.mem_of_mem_take hq))).2.1).2.2) s0
      have hnl := ndL_le l k
      have h200 := HRP.out.2
      have HLT := Lib.hid hlt
      obtain ⟨S1, hS1⟩ : ∃ S, S = stepL day fx (l.take k) s0 := ⟨_, rfl⟩
      rw [← hS1] at HR9 hST hln
      obtain ⟨SN, hSN⟩ : ∃ S, S = stepL day fx (l.take (k + 1)) s0 := ⟨_, rfl⟩
      rw [← hSN] at hST
      have HSN := Lib.hid hSN
      have hen := endS_len (day := day) (fx := fx) un S1 0
      have HPT0 : ptK.R wr (X3 rb vP vF) ⟨f, tn, un, t⟩ [.int .i64 f, .bool tn, .slice ua un.length uc, .int .i64 op, .string nm, .slice xa xl xc, .slice ta tl tc] := ⟨ua, uc, _, rfl, hf, hU, hT⟩
      have HPT := Lib.hid HPT0
      have bn := below_nT wr (.cells #[.int .i64 f, .bool tn, .slice ua un.length uc, .int .i64 op, .string nm, .slice xa xl xc, .slice ta tl tc] 71)
      have BX := Lib.hid (Mem.Blk.new wr 71 #[.int .i64 f, .bool tn, .slice ua un.length uc, .int .i64 op, .string nm, .slice xa xl xc, .slice ta tl tc])
      have HJ5 := Lib.hid (HR9.out.run.below bn)
      have HEN := Lib.hid (ended_any rb rb day fx fa fl fc S1 vP vF un ua un.length uc _ HD.out HJ5.out.run (hU.kept (Kept.of_below bn _)) (fun e he => by have := kI_rk (huk e he); omega) (by omega))
      obtain ⟨s, hs⟩ : ∃ s, s = endS day fx un S1 := ⟨_, rfl⟩
      obtain ⟨EB, hEB⟩ : ∃ s, s = endB day fx un := ⟨_, rfl⟩
      rw [← hs, ← hEB] at HEN
      rw [← hs] at hen
      have HST : Hid (SN = if EB = true ∨ s.bad = true then s else if t.op = 6 ∨ t.op = 7 then waitW (acq day fx) (evalX day fx (x0 t)) t f tn un s else { s with ps := s.ps ++ [⟨f, tn, un, t⟩] }) := by
        show _ = _
        rw [hST, hs, hEB]; rfl
      have HSM : Hid (un.length + t.rk ≤ 1000 ∧ s.ps.length + t.nd ≤ 100000 ∧ s.fs.length + t.nd ≤ 100000) := by
        obtain ⟨g1, g2⟩ := hln
        obtain ⟨g3, g4⟩ := hen
        have g5 : s0.ps.length = 0 := rfl
        have g6 : s0.fs.length = 0 := rfl
        exact ⟨by omega, by omega, by omega⟩
      have HU := Lib.hid hU
      have HT := Lib.hid hT
      have HFI := Lib.hid hf
      have HBT := Lib.hid hbt
      have HOP := Lib.hid hop
      have HO := Lib.hid ho
      have HA := Lib.hid ha
      have HRB : Hid (wr.heap.size ∉ X3 rb vP vF) := fun hm => by have := HR9.out.run.lt _ hm; omega
      clear hp hop ho hr hfit hul huk hnd hrk hbt hST hln hnl h200 hlt hS1 hSN hen HPT0 bn hs hEB hU hT hf
      subst ha
      go_upto_region 7 with (fail)
      generalize wr.alloc (.cells #[.int .i64 f, .bool tn, .slice ua un.length uc, .int .i64 op, .string nm, .slice xa xl xc, .slice ta tl tc] 71) = w5 at *
      obtain ⟨pb, hpb⟩ : ∃ b, b = wr.heap.size := ⟨_, rfl⟩
      rw [← hpb] at HRB BX
      rw [show Value.pointer (some ⟨wr.heap.size, 0, none⟩) = .pointer (some ⟨pb, 0, none⟩) by rw [hpb]]
      clear hpb
      clear u0 u1 u2 u3 u4 u5 u6
      obtain ⟨c0, c1, c2, c3, c4, c5, c6⟩ := blk7 BX.out
      go_wp2_with fail
      go_at_call 28
      (with_reducible refine HEN.out.mono ?_)
      rintro y w6 ⟨rfl, ht⟩
      have HJ6 := Lib.hid (HJ5.out.trans ht)
      have BP6 := Lib.hid (ht.fr.blk BX.out HRB.out)
      clear ht HEN HJ5 BX c0 c1 c2 c3 c4 c5 c6
      have q4 : w6.cell? ⟨rb, 4, none⟩ = some (.bool s.bad) := HJ6.out.run.cells.cell 4
      cases EB with
      | true =>
        have HE : Hid (SN = s) := HST.out.trans (if_pos (.inl rfl))
        go_wp2_with fail
        go_roundw
        case rel => exact ⟨k + 1, vP, vF, by go_num, by have := HLT.out; omega, by rw [← HSN.out, HE.out]; exact HR9.out.trans HJ6.out⟩
        case measure => simp [intOf]; have := HLT.out; omega
      | false =>
        obtain ⟨bd, hbd⟩ : ∃ b, b = s.bad := ⟨_, rfl⟩
        rw [← hbd] at q4 HST
        cases bd with
        | true =>
          have HE : Hid (SN = s) := HST.out.trans (if_pos (.inr rfl))
          clear hbd
          go_wp2_with fail
          go_roundw
          case rel => exact ⟨k + 1, vP, vF, by go_num, by have := HLT.out; omega, by rw [← HSN.out, HE.out]; exact HR9.out.trans HJ6.out⟩
          case measure => simp [intOf]; have := HLT.out; omega
        | false =>
          have HST2 := Lib.hid (HST.out.trans (if_neg (by simp)))
          have HBF : Hid (s.bad = false) := hbd.symm
          clear hbd HST
          obtain ⟨c0, c1, c2, c3, c4, c5, c6⟩ := blk7 BP6.out
          rcases HO.out with h5 | h6 | h7 | h9
          · obtain rfl : op = 5 := HOP.out.trans h5
            have HE : Hid (SN = { s with ps := s.ps ++ [⟨f, tn, un, t⟩] }) := by
              show SN = ⟨s.ps ++ [⟨f, tn, un, t⟩], s.fs, s.bad⟩
              rw [HBF.out]; exact HST2.out.trans (if_neg (by omega))
            clear h5
            go_upto_region 9 with (fail)
            clear c0 c1 c2 c3 c4 c5 c6 q4
            have d1 : w6.cell? ⟨rb, 2, none⟩ = some vP := HJ6.out.run.cells.cell 2
            obtain ⟨c0, c1, c2, c3, c4, c5, c6⟩ := blk7 BP6.out
            refine wp_region_any (by kernel_rfl) ?_
            refine any_take (i := 0) (v := ?_) rfl (by kernel_rfl) (fun _ _ _ h => h) (Or.inl ⟨by rfl, ?_⟩) ?_
            rotate_left
            · intro W
              go_simp
              try with_reducible rfl
            try simp only [Act.put, List.getElem_toArray, List.getElem_cons_zero, List.getElem_cons_succ, List.setIfInBounds_toArray, List.set_cons_zero, List.set_cons_succ]
            refine any_of_till (n := 7) (S := fun W => W.cell? ⟨rb, 2, none⟩ = some vP ∧ W.cell? ⟨pb, 0, none⟩ = some (.int .i64 f) ∧ W.cell? ⟨pb, 1, none⟩ = some (.bool tn) ∧ W.cell? ⟨pb, 2, none⟩ = some (.slice ua un.length uc) ∧ W.cell? ⟨pb, 3, none⟩ = some (.int .i64 5) ∧ W.cell? ⟨pb, 4, none⟩ = some (.string nm) ∧ W.cell? ⟨pb, 5, none⟩ = some (.slice xa xl xc) ∧ W.cell? ⟨pb, 6, none⟩ = some (.slice ta tl tc)) _ _ _ _ ?_
            refine till_take (i := 1) (v := ?_) rfl (by kernel_rfl) (fun _ _ _ h => h) (Or.inl ⟨by rfl, ?_⟩) ⟨d1,c0,c1,c2,c3,c4,c5,c6⟩ ?_
            rotate_left
            · intro W hS
              try dsimp only at hS
              go_split_ands
              go_simp
              try with_reducible rfl
            try simp only [Act.put, List.getElem_toArray, List.getElem_cons_zero, List.getElem_cons_succ, List.setIfInBounds_toArray, List.set_cons_zero, List.set_cons_succ]
            refine till_take (i := 2) (v := ?_) rfl (by kernel_rfl) (fun _ _ _ h => h) (Or.inl ⟨by rfl, ?_⟩) ⟨d1,c0,c1,c2,c3,c4,c5,c6⟩ ?_
            rotate_left
            · intro W hS
              try dsimp only at hS
              go_split_ands
              go_simp
              try with_reducible rfl
            try simp only [Act.put, List.getElem_toArray, List.getElem_cons_zero, List.getElem_cons_succ, List.setIfInBounds_toArray, List.set_cons_zero, List.set_cons_succ]
            refine till_take (i := 3) (v := ?_) rfl (by kernel_rfl) (fun _ _ _ h => h) (Or.inl ⟨by rfl, ?_⟩) ⟨d1,c0,c1,c2,c3,c4,c5,c6⟩ ?_
            rotate_left
            · intro W hS
              try dsimp only at hS
              go_split_ands
              go_simp
              try with_reducible rfl
            try simp only [Act.put, List.getElem_toArray, List.getElem_cons_zero, List.getElem_cons_succ, List.setIfInBounds_toArray, List.set_cons_zero, List.set_cons_succ]
            refine till_take (i := 4) (v := ?_) rfl (by kernel_rfl) (fun _ _ _ h => h) (Or.inl ⟨by rfl, ?_⟩) ⟨d1,c0,c1,c2,c3,c4,c5,c6⟩ ?_
            rotate_left
            · intro W hS
              try dsimp only at hS
              go_split_ands
              go_simp
              try with_reducible rfl
            try simp only [Act.put, List.getElem_toArray, List.getElem_cons_zero, List.getElem_cons_succ, List.setIfInBounds_toArray, List.set_cons_zero, List.set_cons_succ]
            refine till_take (i := 5) (v := ?_) rfl (by kernel_rfl) (fun _ _ _ h => h) (Or.inl ⟨by rfl, ?_⟩) ⟨d1,c0,c1,c2,c3,c4,c5,c6⟩ ?_
            rotate_left
            · intro W hS
              try dsimp only at hS
              go_split_ands
              go_simp
              try with_reducible rfl
            try simp only [Act.put, List.getElem_toArray, List.getElem_cons_zero, List.getElem_cons_succ, List.setIfInBounds_toArray, List.set_cons_zero, List.set_cons_succ]
            refine till_one (i := 6) (by kernel_rfl) rfl (fun K' hK => ?_)
            go_simp
            have hbn : Below w6.heap.size w6 (w6.alloc (.cells #[.int .i64 f, .bool tn, .slice ua un.length uc, .int .i64 5, .string nm, .slice xa xl xc, .slice ta tl tc] 71)).drew := (below_nT w6 (.cells #[.int .i64 f, .bool tn, .slice ua un.length uc, .int .i64 5, .string nm, .slice xa xl xc, .slice ta tl tc] 71)).drew
            have HB2 := Lib.hid (HJ6.out.trans (HJ6.out.run.below hbn))
            have BZ := Lib.hid (Mem.Blk.new w6 71 #[.int .i64 f, .bool tn, .slice ua un.length uc, .int .i64 5, .string nm, .slice xa xl xc, .slice ta tl tc]).drew
            refine hK _ _ ⟨cell_up d1 hbn, cell_up c0 hbn, cell_up c1 hbn, cell_up c2 hbn, cell_up c3 hbn, cell_up c4 hbn, cell_up c5 hbn, cell_up c6 hbn⟩ ?_
            clear hK K' hbn d1 c0 c1 c2 c3 c4 c5 c6
            generalize (w6.alloc (.cells #[.int .i64 f, .bool tn, .slice ua un.length uc, .int .i64 5, .string nm, .slice xa xl xc, .slice ta tl tc] 71)).drew = w5 at *
            generalize w6.heap.size = zz at *
            try simp only [Act.put, List.getElem_toArray, List.getElem_cons_zero, List.getElem_cons_succ, List.setIfInBounds_toArray, List.set_cons_zero, List.set_cons_succ]
            refine till_last (by kernel_rfl) rfl (by kernel_rfl) (fun K' hK => ?_)
            obtain ⟨csl, hGr⟩ := HB2.out.run.sep.at 0 rfl
            have hRp := HB2.out.rep (K := ptK) HPT.out
            refine step_ap infoPt Try.underlying37 rfl (by decide) rfl (.tmp 39) (.tmp 41) rfl rfl hGr.own hGr.room ⟨zz, 0, none⟩ 1 1 [.int .i64 f, .bool tn, .slice ua un.length uc, .int .i64 5, .string nm, .slice xa xl xc, .slice ta tl tc] rfl rfl (fun m u hm => by rw [Mem.add0, BZ.out.cell]; simpa using hm) (by simp [Value.oneCell']) (by have := HSM.out; unfold maxLen; omega) (by have := HSM.out; omega) ?_
            intro v' w6 og gg hv'
            obtain ⟨gP, capn, rfl, -, -, -, -⟩ := own_form og (by omega)
            have MB := (HB2.out.run.sep.push 0 rfl hGr (x := ⟨f, tn, un, t⟩) (c := [.int .i64 f, .bool tn, .slice ua un.length uc, .int .i64 5, .string nm, .slice xa xl xc, .slice ta tl tc]) (by rw [owns_famR]; exact hRp) og gg hv').blk 2 rfl
            have m4 : w6.cell? ⟨rb, 2, none⟩ = some vP := MB.cell 2
            have m5 : w6.frozen? ⟨rb, 2, none⟩ = false := MB.frozen 2
            have HB3 := Lib.hid (HB2.out.trans (HB2.out.run.pushP hGr (x := ⟨f, tn, un, t⟩) (c := [.int .i64 f, .bool tn, .slice ua un.length uc, .int .i64 5, .string nm, .slice xa xl xc, .slice ta tl tc]) hRp og gg hv'))
            clear HB2 hGr og gg hv' BZ hRp MB
            refine hK _ _ ?_
            clear hK K'
            try simp only [Act.put, List.getElem_toArray, List.getElem_cons_zero, List.getElem_cons_succ, List.setIfInBounds_toArray, List.set_cons_zero, List.set_cons_succ]
            refine any_take (i := 8) (v := ?_) rfl (by kernel_rfl) (fun _ _ _ h => h) (Or.inl ⟨by rfl, ?_⟩) ?_
            rotate_left
            · intro W
              go_simp
              try with_reducible rfl
            try simp only [Act.put, List.getElem_toArray, List.getElem_cons_zero, List.getElem_cons_succ, List.setIfInBounds_toArray, List.set_cons_zero, List.set_cons_succ]
            refine any_take (i := 9) (v := ?_) rfl (by kernel_rfl) (fun _ _ _ h => h) (Or.inl ⟨by rfl, ?_⟩) ?_
            rotate_left
            · intro W
              go_simp
              try with_reducible rfl
            try simp only [Act.put, List.getElem_toArray, List.getElem_cons_zero, List.getElem_cons_succ, List.setIfInBounds_toArray, List.set_cons_zero, List.set_cons_succ]
            refine any_one (i := 10) (by kernel_rfl) rfl (fun K' hK => ?_)
            go_simp
            refine hK _ _ ?_
            clear hK K' m4 m5
            refine wpAny_done (by kernel_rfl) ?_ _
            go_wp2_with fail
            go_roundw
            case rel => exact ⟨k + 1, _, vF, by go_num, by have := HLT.out; omega, by rw [← HSN.out, HE.out]; exact HR9.out.trans HB3.out⟩
            case measure => simp [intOf]; have := HLT.out; omega
          · obtain rfl : op = 6 := HOP.out.trans h6
            have HE := Lib.hid (HST2.out.trans (if_pos (.inl h6)))
            have HOQ : Hid (t.op = 6 ∨ t.op = 7) := .inl h6
            have HT6 : Hid (RepT w6 (X3 rb vP vF) t [.int .i64 6, .string nm, .slice xa xl xc, .slice ta tl tc]) := HJ6.out.rep (K := teK) (x := t) HT.out
            have HWT := Lib.hid (wait_any rb rb day fx fa fl fc t f tn un s vP vF ua uc _ w6 HD.out HFI.out HJ6.out.run HT6.out (HJ6.out.slr (K := exK) HU.out) HBT.out HOQ.out HSM.out.1 HSM.out.2.1 HSM.out.2.2 (acquire_any rb rb day fx fa fl fc HD.out _ (t0 t) (Nat.le_refl _) (by
              obtain ⟨g1, -⟩ := te_kids HBT.out
              have hoo := HOQ.out
              exact bT_kid HBT.out (by rw [g1 (by omega)]; exact List.mem_cons_self ..))))
            clear HT6 h6
            go_wp2_with fail
            go_at_call 29
            (with_reducible refine HWT.out.mono ?_)
            rintro y w7 ⟨rfl, vP', vF', hR9⟩
            have HR7 := Lib.hid (HJ6.out.trans hR9)
            clear hR9 HWT c0 c1 c2 c3 c4 c5 c6 q4
            go_wp2_with fail
            go_roundw
            case rel => exact ⟨k + 1, vP', vF', by go_num, by have := HLT.out; omega, by rw [← HSN.out, HE.out]; exact HR9.out.trans HR7.out⟩
            case measure => simp [intOf]; have := HLT.out; omega
          · obtain rfl : op = 7 := HOP.out.trans h7
            have HE := Lib.hid (HST2.out.trans (if_pos (.inr h7)))
            have HOQ : Hid (t.op = 6 ∨ t.op = 7) := .inr h7
            have HT6 : Hid (RepT w6 (X3 rb vP vF) t [.int .i64 7, .string nm, .slice xa xl xc, .slice ta tl tc]) := HJ6.out.rep (K := teK) (x := t) HT.out
            have HWT := Lib.hid (wait_any rb rb day fx fa fl fc t f tn un s vP vF ua uc _ w6 HD.out HFI.out HJ6.out.run HT6.out (HJ6.out.slr (K := exK) HU.out) HBT.out HOQ.out HSM.out.1 HSM.out.2.1 HSM.out.2.2 (acquire_any rb rb day fx fa fl fc HD.out _ (t0 t) (Nat.le_refl _) (by
              obtain ⟨g1, -⟩ := te_kids HBT.out
              have hoo := HOQ.out
              exact bT_kid HBT.out (by rw [g1 (by omega)]; exact List.mem_cons_self ..))))
            clear HT6 h7
            go_wp2_with fail
            go_at_call 29
            (with_reducible refine HWT.out.mono ?_)
            rintro y w7 ⟨rfl, vP', vF', hR9⟩
            have HR7 := Lib.hid (HJ6.out.trans hR9)
            clear hR9 HWT c0 c1 c2 c3 c4 c5 c6 q4
            go_wp2_with fail
            go_roundw
            case rel => exact ⟨k + 1, vP', vF', by go_num, by have := HLT.out; omega, by rw [← HSN.out, HE.out]; exact HR9.out.trans HR7.out⟩
            case measure => simp [intOf]; have := HLT.out; omega
          · obtain rfl : op = 9 := HOP.out.trans h9
            have HE : Hid (SN = { s with ps := s.ps ++ [⟨f, tn, un, t⟩] }) := by
              show SN = ⟨s.ps ++ [⟨f, tn, un, t⟩], s.fs, s.bad⟩
              rw [HBF.out]; exact HST2.out.trans (if_neg (by omega))
            clear h9
            go_upto_region 9 with (fail)
            clear c0 c1 c2 c3 c4 c5 c6 q4
            have d1 : w6.cell? ⟨rb, 2, none⟩ = some vP := HJ6.out.run.cells.cell 2
            obtain ⟨c0, c1, c2, c3, c4, c5, c6⟩ := blk7 BP6.out
            refine wp_region_any (by kernel_rfl) ?_
            refine any_take (i := 0) (v := ?_) rfl (by kernel_rfl) (fun _ _ _ h => h) (Or.inl ⟨by rfl, ?_⟩) ?_
            rotate_left
            · intro W
              go_simp
              try with_reducible rfl
            try simp only [Act.put, List.getElem_toArray, List.getElem_cons_zero, List.getElem_cons_succ, List.setIfInBounds_toArray, List.set_cons_zero, List.set_cons_succ]
            refine any_of_till (n := 7) (S := fun W => W.cell? ⟨rb, 2, none⟩ = some vP ∧ W.cell? ⟨pb, 0, none⟩ = some (.int .i64 f) ∧ W.cell? ⟨pb, 1, none⟩ = some (.bool tn) ∧ W.cell? ⟨pb, 2, none⟩ = some (.slice ua un.length uc) ∧ W.cell? ⟨pb, 3, none⟩ = some (.int .i64 9) ∧ W.cell? ⟨pb, 4, none⟩ = some (.string nm) ∧ W.cell? ⟨pb, 5, none⟩ = some (.slice xa xl xc) ∧ W.cell? ⟨pb, 6, none⟩ = some (.slice ta tl tc)) _ _ _ _ ?_
            refine till_take (i := 1) (v := ?_) rfl (by kernel_rfl) (fun _ _ _ h => h) (Or.inl ⟨by rfl, ?_⟩) ⟨d1,c0,c1,c2,c3,c4,c5,c6⟩ ?_
            rotate_left
            · intro W hS
              try dsimp only at hS
              go_split_ands
              go_simp
              try with_reducible rfl
            try simp only [Act.put, List.getElem_toArray, List.getElem_cons_zero, List.getElem_cons_succ, List.setIfInBounds_toArray, List.set_cons_zero, List.set_cons_succ]
            refine till_take (i := 2) (v := ?_) rfl (by kernel_rfl) (fun _ _ _ h => h) (Or.inl ⟨by rfl, ?_⟩) ⟨d1,c0,c1,c2,c3,c4,c5,c6⟩ ?_
            rotate_left
            · intro W hS
              try dsimp only at hS
              go_split_ands
              go_simp
              try with_reducible rfl
            try simp only [Act.put, List.getElem_toArray, List.getElem_cons_zero, List.getElem_cons_succ, List.setIfInBounds_toArray, List.set_cons_zero, List.set_cons_succ]
            refine till_take (i := 3) (v := ?_) rfl (by kernel_rfl) (fun _ _ _ h => h) (Or.inl ⟨by rfl, ?_⟩) ⟨d1,c0,c1,c2,c3,c4,c5,c6⟩ ?_
            rotate_left
            · intro W hS
              try dsimp only at hS
              go_split_ands
              go_simp
              try with_reducible rfl
            try simp only [Act.put, List.getElem_toArray, List.getElem_cons_zero, List.getElem_cons_succ, List.setIfInBounds_toArray, List.set_cons_zero, List.set_cons_succ]
            refine till_take (i := 4) (v := ?_) rfl (by kernel_rfl) (fun _ _ _ h => h) (Or.inl ⟨by rfl, ?_⟩) ⟨d1,c0,c1,c2,c3,c4,c5,c6⟩ ?_
            rotate_left
            · intro W hS
              try dsimp only at hS
              go_split_ands
              go_simp
              try with_reducible rfl
            try simp only [Act.put, List.getElem_toArray, List.getElem_cons_zero, List.getElem_cons_succ, List.setIfInBounds_toArray, List.set_cons_zero, List.set_cons_succ]
            refine till_take (i := 5) (v := ?_) rfl (by kernel_rfl) (fun _ _ _ h => h) (Or.inl ⟨by rfl, ?_⟩) ⟨d1,c0,c1,c2,c3,c4,c5,c6⟩ ?_
            rotate_left
            · intro W hS
              try dsimp only at hS
              go_split_ands
              go_simp
              try with_reducible rfl
            try simp only [Act.put, List.getElem_toArray, List.getElem_cons_zero, List.getElem_cons_succ, List.setIfInBounds_toArray, List.set_cons_zero, List.set_cons_succ]
            refine till_one (i := 6) (by kernel_rfl) rfl (fun K' hK => ?_)
            go_simp
            have hbn : Below w6.heap.size w6 (w6.alloc (.cells #[.int .i64 f, .bool tn, .slice ua un.length uc, .int .i64 9, .string nm, .slice xa xl xc, .slice ta tl tc] 71)).drew := (below_nT w6 (.cells #[.int .i64 f, .bool tn, .slice ua un.length uc, .int .i64 9, .string nm, .slice xa xl xc, .slice ta tl tc] 71)).drew
            have HB2 := Lib.hid (HJ6.out.trans (HJ6.out.run.below hbn))
            have BZ := Lib.hid (Mem.Blk.new w6 71 #[.int .i64 f, .bool tn, .slice ua un.length uc, .int .i64 9, .string nm, .slice xa xl xc, .slice ta tl tc]).drew
            refine hK _ _ ⟨cell_up d1 hbn, cell_up c0 hbn, cell_up c1 hbn, cell_up c2 hbn, cell_up c3 hbn, cell_up c4 hbn, cell_up c5 hbn, cell_up c6 hbn⟩ ?_
            clear hK K' hbn d1 c0 c1 c2 c3 c4 c5 c6
            generalize (w6.alloc (.cells #[.int .i64 f, .bool tn, .slice ua un.length uc, .int .i64 9, .string nm, .slice xa xl xc, .slice ta tl tc] 71)).drew = w5 at *
            generalize w6.heap.size = zz at *
            try simp only [Act.put, List.getElem_toArray, List.getElem_cons_zero, List.getElem_cons_succ, List.setIfInBounds_toArray, List.set_cons_zero, List.set_cons_succ]
            refine till_last (by kernel_rfl) rfl (by kernel_rfl) (fun K' hK => ?_)
            obtain ⟨csl, hGr⟩ := HB2.out.run.sep.at 0 rfl
            have hRp := HB2.out.rep (K := ptK) HPT.out
            refine step_ap infoPt Try.underlying37 rfl (by decide) rfl (.tmp 39) (.tmp 41) rfl rfl hGr.own hGr.room ⟨zz, 0, none⟩ 1 1 [.int .i64 f, .bool tn, .slice ua un.length uc, .int .i64 9, .string nm, .slice xa xl xc, .slice ta tl tc] rfl rfl (fun m u hm => by rw [Mem.add0, BZ.out.cell]; simpa using hm) (by simp [Value.oneCell']) (by have := HSM.out; unfold maxLen; omega) (by have := HSM.out; omega) ?_
            intro v' w6 og gg hv'
            obtain ⟨gP, capn, rfl, -, -, -, -⟩ := own_form og (by omega)
            have MB := (HB2.out.run.sep.push 0 rfl hGr (x := ⟨f, tn, un, t⟩) (c := [.int .i64 f, .bool tn, .slice ua un.length uc, .int .i64 9, .string nm, .slice xa xl xc, .slice ta tl tc]) (by rw [owns_famR]; exact hRp) og gg hv').blk 2 rfl
            have m4 : w6.cell? ⟨rb, 2, none⟩ = some vP := MB.cell 2
            have m5 : w6.frozen? ⟨rb, 2, none⟩ = false := MB.frozen 2
            have HB3 := Lib.hid (HB2.out.trans (HB2.out.run.pushP hGr (x := ⟨f, tn, un, t⟩) (c := [.int .i64 f, .bool tn, .slice ua un.length uc, .int .i64 9, .string nm, .slice xa xl xc, .slice ta tl tc]) hRp og gg hv'))
            clear HB2 hGr og gg hv' BZ hRp MB
            refine hK _ _ ?_
            clear hK K'
            try simp only [Act.put, List.getElem_toArray, List.getElem_cons_zero, List.getElem_cons_succ, List.setIfInBounds_toArray, List.set_cons_zero, List.set_cons_succ]
            refine any_take (i := 8) (v := ?_) rfl (by kernel_rfl) (fun _ _ _ h => h) (Or.inl ⟨by rfl, ?_⟩) ?_
            rotate_left
            · intro W
              go_simp
              try with_reducible rfl
            try simp only [Act.put, List.getElem_toArray, List.getElem_cons_zero, List.getElem_cons_succ, List.setIfInBounds_toArray, List.set_cons_zero, List.set_cons_succ]
            refine any_take (i := 9) (v := ?_) rfl (by kernel_rfl) (fun _ _ _ h => h) (Or.inl ⟨by rfl, ?_⟩) ?_
            rotate_left
            · intro W
              go_simp
              try with_reducible rfl
            try simp only [Act.put, List.getElem_toArray, List.getElem_cons_zero, List.getElem_cons_succ, List.setIfInBounds_toArray, List.set_cons_zero, List.set_cons_succ]
            refine any_one (i := 10) (by kernel_rfl) rfl (fun K' hK => ?_)
            go_simp
            refine hK _ _ ?_
            clear hK K' m4 m5
            refine wpAny_done (by kernel_rfl) ?_ _
            go_wp2_with fail
            go_roundw
            case rel => exact ⟨k + 1, _, vF, by go_num, by have := HLT.out; omega, by rw [← HSN.out, HE.out]; exact HR9.out.trans HB3.out⟩
            case measure => simp [intOf]; have := HLT.out; omega
    · have hlt' : ¬ (k : Int) < (len : Int) := by omega
      obtain rfl : k = len := by omega
      rw [List.take_of_length_le (by rw [HL.out]; omega)] at HR9
      have HB6 : Hid (Below w.heap.size w wr) := HB4.out.trans (HR9.out.fr.below (B := w.heap.size) HB4.out.size (fun b hb => by
        rw [X3_nil, List.mem_singleton] at hb
        have := HBS.out; omega))
      clear hlt
      obtain ⟨S9, hS9⟩ : ∃ S, S = stepL day fx l s0 := ⟨_, rfl⟩
      rw [← hS9] at HR9 HBD
      have HS9 := Lib.hid hS9
      clear hS9
      obtain ⟨pa, pc, qa, qc, rfl, rfl, hO1, hO2⟩ := HR9.out.run.out
      have HO := Lib.hid (And.intro hO1 hO2)
      have HTL := Lib.hid (told_ok rb rb day fx fa fl fc S9 pa S9.ps.length pc qa S9.fs.length qc wr HR9.out.run HBD.out)
      clear hO1 hO2
      go_wp2_with fail
      go_at_call 23
      (with_reducible refine HTL.out.mono ?_)
      rintro y w7 ⟨rfl, b7⟩
      have HB7 := Lib.hid (HB6.out.trans (b7.mono HB6.out.size))
      have HFN : Hid (OutS w7 (stepL day fx l s0) (.returned (.tuple #[.slice pa S9.ps.length pc, .slice qa S9.fs.length qc, .int .i64 0]))) := by
        rw [← HS9.out]
        exact ⟨pa, pc, qa, qc, rfl, HO.out.1.kept (Kept.of_below b7 _), HO.out.2.kept (Kept.of_below b7 _)⟩
      clear b7 HTL HO
      go_wp2_with fail
      go_ret3
      exact ⟨HFN.out, HB7.out⟩
end Go.Proofs.Ytmiinmndbkdjbaa

/- The law's own example of chapter 23. -/
namespace Go.Proofs.Ytmiinmndbkdjbaa
set_option linter.unusedVariables false
set_option linter.unusedSimpArgs false
open Go.RowKit
def usd : ByteArray := ⟨#[85, 83, 68]⟩
def eur : ByteArray := ⟨#[69, 85, 82]⟩
def dayX : Ex := .mk 15 0 ⟨#[]⟩ [.mk 4 0 ⟨#[]⟩ [], .mk 2 19723 ⟨#[]⟩ []]
def eurT : Te := .mk 2 eur [] []
def usdT : Te := .mk 2 usd [] []
def whenT : Te := .mk 7 ⟨#[]⟩ [dayX] [eurT]
def awkT : Te := .mk 4 ⟨#[]⟩ [] [usdT, whenT]
theorem dayX_built : bE dayX = true := by kernel_rfl
theorem eurT_built : bT eurT = true := by kernel_rfl
theorem usdT_built : bT usdT = true := by kernel_rfl
theorem whenT_built : bT whenT = true := by kernel_rfl
theorem awkT_built : bT awkT = true := by kernel_rfl
theorem dayX_right : rE dayX = true := by
  have h : rE dayX = (decide (dayX.nd ≤ 200 ∧ dayX.rk ≤ 16) && bE dayX) := rfl
  rw [h, dayX_built]; decide
theorem dayX_kE : kE dayX = 2 := by kernel_rfl
theorem dayX_kind : kI dayX = 2 := by
  have h : kI dayX = if rE dayX then kE dayX else 0 := rfl
  rw [h, dayX_right, dayX_kE]; rfl
theorem dayX_0 : evalX 0 [] dayX = .tru false := by
  unfold evalX
  rw [dayX_kind, if_neg (by decide)]
  simp [dayX, evalE_mk, evO, opV, seenV, seenF, twoV, cmpV, Vl.N]
theorem dayX_1 : evalX 19723 [] dayX = .tru true := by
  unfold evalX
  rw [dayX_kind, if_neg (by decide)]
  simp [dayX, evalE_mk, evO, opV, seenV, seenF, twoV, cmpV, Vl.N]
theorem whenT_right : rT whenT = true := by
  have h : rT whenT = (decide (whenT.nd ≤ 200 ∧ whenT.rk ≤ 16) && bT whenT) := rfl
  rw [h, whenT_built]; decide
theorem awkT_right : rT awkT = true := by
  have h : rT awkT = (decide (awkT.nd ≤ 200 ∧ awkT.rk ≤ 16) && bT awkT) := rfl
  rw [h, awkT_built]; decide
theorem whenT_fit : fitT whenT = true := by
  have h : fitT whenT = ((decide (kE dayX = 2) && true) && (fitT eurT && true)) := rfl
  rw [h, dayX_kE]; rfl
theorem awkT_fit : fitT awkT = true := by
  have h : fitT awkT = (fitT usdT && (fitT whenT && true)) := rfl
  rw [h, whenT_fit]; rfl
theorem fitC_of {t : Te} (hr : rT t = true) (hf : fitT t = true) : fitC t = 0 := by unfold fitC; rw [if_pos hr, if_pos hf]
def whenP : Prt := ⟨1, false, [], whenT⟩
theorem awk_start : acq 0 [] awkT 1 false [] s0 = ⟨[whenP], [⟨usd, 1⟩], false⟩ := by
  rw [acq4 awkT_built rfl rfl]
  rw [show t0 awkT = usdT from rfl, show t1 awkT = whenT from rfl]
  rw [acq2 usdT_built rfl rfl (by decide)]
  rw [acq67 whenT_built rfl (.inr rfl)]
  rw [show x0 whenT = dayX from rfl, dayX_0]
  rw [waitW_part (by show (2 : Int) ≠ 3; decide) (fun h => absurd h (by decide)) (fun _ => rfl)]
  rfl
theorem awk_step : stepL 19723 [] [whenP] s0 = ⟨[], [⟨eur, 1⟩], false⟩ := by
  show stepP 19723 [] s0 whenP = _
  unfold stepP
  have e : endS 19723 [] whenP.til s0 = s0 := rfl
  have e2 : endB 19723 [] whenP.til = false := rfl
  rw [e, e2, if_neg (by decide), if_pos (.inr rfl)]
  rw [show x0 whenP.term = dayX from rfl, dayX_1, waitW_when (show whenP.term.op = 7 from rfl)]
  rw [show t0 whenP.term = eurT from rfl, acq2 eurT_built rfl rfl (by decide)]
  rfl
theorem awk_right : rightP [whenP] = true := by
  have h : rightP [whenP] = ((partB whenP && true) && decide (ndL [whenP] ≤ 200)) := rfl
  have h2 : partB whenP = (true && decide (fitC whenT = 0) && true && true) := rfl
  rw [h, h2, fitC_of whenT_right whenT_fit]
  decide
theorem lit2X {w : World} {x y : Ex} {c d : List Value} {cs : Array Value} {op n : Int} (hcs : cs.toList = c ++ d) (hx : RepE w [] x c) (hy : RepE w [] y d) (ho : I64 op) (hn : I64 n) :
    RepE ((w.alloc (.cells cs 53)).alloc (.cells #[.int .i64 op, .int .i64 n, .string ⟨#[]⟩, .slice (some ⟨w.heap.size, 0, none⟩) 2 2] 53)) [] (.mk op n ⟨#[]⟩ [x, y]) [.int .i64 op, .int .i64 n, .string ⟨#[]⟩, .slice (some ⟨w.heap.size, 0, none⟩) 2 2] ∧
    Mem.Blk ((w.alloc (.cells cs 53)).alloc (.cells #[.int .i64 op, .int .i64 n, .string ⟨#[]⟩, .slice (some ⟨w.heap.size, 0, none⟩) 2 2] 53)) (w.heap.size + 1) 53 #[.int .i64 op, .int .i64 n, .string ⟨#[]⟩, .slice (some ⟨w.heap.size, 0, none⟩) 2 2] ∧
    Below w.heap.size w ((w.alloc (.cells cs 53)).alloc (.cells #[.int .i64 op, .int .i64 n, .string ⟨#[]⟩, .slice (some ⟨w.heap.size, 0, none⟩) 2 2] 53)) := by
  have h1 := Mem.Blk.new w 53 cs
  have h2 := Mem.Blk.new (w.alloc (.cells cs 53)) 53 #[.int .i64 op, .int .i64 n, .string ⟨#[]⟩, .slice (some ⟨w.heap.size, 0, none⟩) 2 2]
  have e1 : (w.alloc (.cells cs 53)).heap.size = w.heap.size + 1 := by simp
  have hb := ((Below.refl w.heap.size w).alloc (Nat.le_refl _) (.cells cs 53)).alloc (by rw [e1]; omega) (.cells #[.int .i64 op, .int .i64 n, .string ⟨#[]⟩, .slice (some ⟨w.heap.size, 0, none⟩) 2 2] 53)
  rw [e1] at h2
  exact ⟨RepE.mk' ho hn (by decide) (SlR.lit2 (K := exK) (h1.alloc _) hcs (by simp) (hx.kept (Kept.of_below hb [])) (hy.kept (Kept.of_below hb []))).slE, h2, hb⟩
theorem leafX {w : World} {X : List Nat} (op n : Int) (nm : ByteArray) (ho : I64 op) (hn : I64 n) (hs : nm.size ≤ 9223372036854775807) : RepE w X (.mk op n nm []) [.int .i64 op, .int .i64 n, .string nm, .slice none 0 0] := RepE.mk' ho hn hs (SlE.nil _ _)
theorem oneT {w : World} {X : List Nat} (nm : ByteArray) (hs : nm.size ≤ 9223372036854775807) : RepT w X (.mk 2 nm [] []) [.int .i64 2, .string nm, .slice none 0 0, .slice none 0 0] := RepT.mk' (by unfold I64; omega) hs (SlE.nil _ _) (SlT.nil _ _)
/-- A When, as a literal. -/
theorem whenLit {w : World} {x : Ex} {c0 c1 c2 c3 : Value} (hx : RepE w [] x [c0, c1, c2, c3]) (nm : ByteArray) (hs : nm.size ≤ 9223372036854775807) :
    RepT (((w.alloc (.cells #[c0, c1, c2, c3] 53)).alloc (.cells #[.int .i64 2, .string nm, .slice none 0 0, .slice none 0 0] 32)).alloc (.cells #[.int .i64 7, .string ⟨#[]⟩, .slice (some ⟨w.heap.size, 0, none⟩) 1 1, .slice (some ⟨w.heap.size + 1, 0, none⟩) 1 1] 32)) [] (.mk 7 ⟨#[]⟩ [x] [.mk 2 nm [] []]) [.int .i64 7, .string ⟨#[]⟩, .slice (some ⟨w.heap.size, 0, none⟩) 1 1, .slice (some ⟨w.heap.size + 1, 0, none⟩) 1 1] ∧
    Mem.Blk (((w.alloc (.cells #[c0, c1, c2, c3] 53)).alloc (.cells #[.int .i64 2, .string nm, .slice none 0 0, .slice none 0 0] 32)).alloc (.cells #[.int .i64 7, .string ⟨#[]⟩, .slice (some ⟨w.heap.size, 0, none⟩) 1 1, .slice (some ⟨w.heap.size + 1, 0, none⟩) 1 1] 32)) (w.heap.size + 1 + 1) 32 #[.int .i64 7, .string ⟨#[]⟩, .slice (some ⟨w.heap.size, 0, none⟩) 1 1, .slice (some ⟨w.heap.size + 1, 0, none⟩) 1 1] ∧
    Below w.heap.size w (((w.alloc (.cells #[c0, c1, c2, c3] 53)).alloc (.cells #[.int .i64 2, .string nm, .slice none 0 0, .slice none 0 0] 32)).alloc (.cells #[.int .i64 7, .string ⟨#[]⟩, .slice (some ⟨w.heap.size, 0, none⟩) 1 1, .slice (some ⟨w.heap.size + 1, 0, none⟩) 1 1] 32)) := by
  have h1 := Mem.Blk.new w 53 #[c0, c1, c2, c3]
  have b1 := below_nT w (.cells #[c0, c1, c2, c3] 53)
  have e1 : (w.alloc (.cells #[c0, c1, c2, c3] 53)).heap.size = w.heap.size + 1 := by simp
  generalize w.alloc (.cells #[c0, c1, c2, c3] 53) = v1 at *
  have h2 := Mem.Blk.new v1 32 #[.int .i64 2, .string nm, .slice none 0 0, .slice none 0 0]
  have b2 := below_nT v1 (.cells #[.int .i64 2, .string nm, .slice none 0 0, .slice none 0 0] 32)
  have e2 : (v1.alloc (.cells #[.int .i64 2, .string nm, .slice none 0 0, .slice none 0 0] 32)).heap.size = w.heap.size + 1 + 1 := by rw [← e1]; simp
  rw [e1] at h2
  generalize v1.alloc (.cells #[.int .i64 2, .string nm, .slice none 0 0, .slice none 0 0] 32) = v2 at *
  have h3 := Mem.Blk.new v2 32 #[.int .i64 7, .string ⟨#[]⟩, .slice (some ⟨w.heap.size, 0, none⟩) 1 1, .slice (some ⟨w.heap.size + 1, 0, none⟩) 1 1]
  have b3 := below_nT v2 (.cells #[.int .i64 7, .string ⟨#[]⟩, .slice (some ⟨w.heap.size, 0, none⟩) 1 1, .slice (some ⟨w.heap.size + 1, 0, none⟩) 1 1] 32)
  rw [e2] at h3
  have hb : Below w.heap.size w (v2.alloc (.cells #[.int .i64 7, .string ⟨#[]⟩, .slice (some ⟨w.heap.size, 0, none⟩) 1 1, .slice (some ⟨w.heap.size + 1, 0, none⟩) 1 1] 32)) := (b1.trans (b2.mono b1.size)).trans (b3.mono (by rw [e2]; omega))
  refine ⟨RepT.mk' (by unfold I64; omega) (by decide) ?_ ?_, h3, hb⟩
  · exact (SlR.lit1 (K := exK) ((h1.below b2).below b3) (by simp) (hx.kept (Kept.of_below hb []))).slE
  · exact SlR.lit1 (K := teK) (h2.below b3) (by simp) (oneT nm hs)
set_option maxRecDepth 100000 in
set_option maxHeartbeats 4000000 in
theorem awake23_any (w : World) : Calls Try.prog 6 #[] w fun x w' => x = .returned (.bool true) ∧ Below w.heap.size w w' := by
  have L1 := Lib.hid (lit2X (w := w) (cs := #[.int .i64 4, .int .i64 0, .string ⟨#[]⟩, .slice none 0 0, .int .i64 2, .int .i64 19723, .string ⟨#[]⟩, .slice none 0 0]) (op := 15) (n := 0) rfl (leafX 4 0 ⟨#[]⟩ (by unfold I64; omega) (by unfold I64; omega) (by decide)) (leafX 2 19723 ⟨#[]⟩ (by unfold I64; omega) (by unfold I64; omega) (by decide)) (by unfold I64; omega) (by unfold I64; omega))
  go_enter Try.func6, Try.ntmps6
  go_upto_region 2 with (fail)
  generalize (w.alloc (.cells #[.int .i64 4, .int .i64 0, .string ⟨#[]⟩, .slice none 0 0, .int .i64 2, .int .i64 19723, .string ⟨#[]⟩, .slice none 0 0] 53)).alloc (.cells #[.int .i64 15, .int .i64 0, .string ⟨#[]⟩, .slice (some ⟨w.heap.size, 0, none⟩) 2 2] 53) = v1 at *
  obtain ⟨a0, a1, a2, a3, -, -, -, -⟩ := blk4 L1.out.2.1
  have HR1 := Lib.hid L1.out.1
  have HB1 := Lib.hid L1.out.2.2
  clear L1
  have L2 := Lib.hid (whenLit HR1.out ⟨#[69, 85, 82]⟩ (by decide))
  go_upto_region 3 with (fail)
  generalize ((v1.alloc (.cells #[.int .i64 15, .int .i64 0, .string ⟨#[]⟩, .slice (some ⟨w.heap.size, 0, none⟩) 2 2] 53)).alloc (.cells #[.int .i64 2, .string ⟨#[69, 85, 82]⟩, .slice none 0 0, .slice none 0 0] 32)).alloc (.cells #[.int .i64 7, .string ⟨#[]⟩, .slice (some ⟨v1.heap.size, 0, none⟩) 1 1, .slice (some ⟨v1.heap.size + 1, 0, none⟩) 1 1] 32) = v2 at *
  have HR2 := Lib.hid L2.out.1
  have HB2 := Lib.hid (HB1.out.trans (L2.out.2.2.mono HB1.out.size))
  clear a0 a1 a2 a3
  obtain ⟨a0, a1, a2, a3, -, -, -, -⟩ := blk4 L2.out.2.1
  clear L2 HR1 HB1
  generalize v1.heap.size = z1 at *
  have h3 := Mem.Blk.new v2 32 #[.int .i64 2, .string ⟨#[85, 83, 68]⟩, .slice none 0 0, .slice none 0 0, .int .i64 7, .string ⟨#[]⟩, .slice (some ⟨z1, 0, none⟩) 1 1, .slice (some ⟨z1 + 1, 0, none⟩) 1 1]
  have b3 := below_nT v2 (.cells #[.int .i64 2, .string ⟨#[85, 83, 68]⟩, .slice none 0 0, .slice none 0 0, .int .i64 7, .string ⟨#[]⟩, .slice (some ⟨z1, 0, none⟩) 1 1, .slice (some ⟨z1 + 1, 0, none⟩) 1 1] 32)
  have HR3 : Hid (RepT (v2.alloc (.cells #[.int .i64 2, .string ⟨#[85, 83, 68]⟩, .slice none 0 0, .slice none 0 0, .int .i64 7, .string ⟨#[]⟩, .slice (some ⟨z1, 0, none⟩) 1 1, .slice (some ⟨z1 + 1, 0, none⟩) 1 1] 32)) [] awkT [.int .i64 4, .string ⟨#[]⟩, .slice none 0 0, .slice (some ⟨v2.heap.size, 0, none⟩) 2 2]) :=
    RepT.mk' (by unfold I64; omega) (by decide) (SlE.nil _ _) (SlR.lit2 (K := teK) (x := usdT) (y := whenT) h3 rfl (by simp) (oneT _ (by decide)) (HR2.out.kept (Kept.of_below b3 [])))
  have HB3 := Lib.hid (HB2.out.trans (b3.mono HB2.out.size))
  have hst := start_ok 0 [] none 0 0 awkT _ _ (by unfold I64; omega) (SlR.nil _ _ _) HR3.out (fitC_of awkT_right awkT_fit) (by rw [awk_start])
  rw [awk_start] at hst
  have HST := Lib.hid hst
  clear h3 b3 hst
  go_wp2_with fail
  (with_reducible refine HST.out.mono ?_)
  rintro y w4 ⟨hy, b4⟩
  obtain ⟨pa, pc, qa, qc, rfl, hP, hQ⟩ := hy
  have HB4 := Lib.hid (HB3.out.trans (b4.mono HB3.out.size))
  have hsp := step_ok 19723 [] none 0 0 [whenP] pa 1 pc w4 (by unfold I64; omega) (SlR.nil _ _ _) hP (fun p hp => by rw [List.mem_singleton] at hp; subst hp; exact ⟨by decide, by decide, fun e he => nomatch he⟩) (by omega) awk_right (by rw [awk_step])
  rw [awk_step] at hsp
  have HSP := Lib.hid hsp
  have HQ := Lib.hid hQ
  clear hsp hP hQ b4 HST HR3 HB3 HB2 HR2 a0 a1 a2 a3
  go_wp2_with fail
  go_at_call 13
  (with_reducible refine HSP.out.mono ?_)
  rintro y w5 ⟨hy, b5⟩
  obtain ⟨pa2, pc2, qa2, qc2, rfl, -, hQ2⟩ := hy
  obtain ⟨b, o, x, rfl, hx, -, f0, f1⟩ := fl_at (HQ.out.kept (Kept.of_below b5 [])) 0 (by decide)
  obtain ⟨b', o', x', rfl, hx', -, g0, g1⟩ := fl_at hQ2 0 (by decide)
  injection hx with hx
  injection hx' with hx'
  subst hx
  subst hx'
  have HB5 := Lib.hid (HB4.out.trans (b5.mono HB4.out.size))
  clear HB4 HSP HQ hQ2 b5
  rw [Nat.zero_mul, Nat.add_zero] at f0 f1 g0 g1
  have y0 : w5.cell? ⟨b, o, none⟩ = some (.string ⟨#[85, 83, 68]⟩) := f0
  have y1 : w5.cell? ⟨b, o + 1, none⟩ = some (.int .i64 1) := f1
  have y2 : w5.cell? ⟨b', o', none⟩ = some (.string ⟨#[69, 85, 82]⟩) := g0
  have y3 : w5.cell? ⟨b', o' + 1, none⟩ = some (.int .i64 1) := g1
  clear f0 f1 g0 g1
  go_wp2_with fail
  go_ret
  exact ⟨rfl, HB5.out⟩
end Go.Proofs.Ytmiinmndbkdjbaa
