/- A part of the proof: Fts, Flt, FltT, SameR, SameS, AwkP, Awk21, one behind another. -/
import Derived.Test.YtppnmeobnilojaaMAA
import Derived.Test.YtppnmeobnilojaaMAB
import Derived.Test.YtppnmeobnilojaaMAC
import Derived.Test.YtppnmeobnilojaaMAD
import Derived.Test.YtppnmeobnilojaaMAE
import Derived.Deep.QuietTactic
import Derived.StillTailTactics
/- The contracts of check.needs, fits, Fits; condition: the term is built as it must be. -/
namespace Go.Proofs.Ytppnmeobnilojaa
set_option linter.unusedVariables false
set_option linter.unusedSimpArgs false
open Go.RowKit
theorem needs_any (op : Int) (v1 v2 v3 : Value) (w : World) : Calls Try.prog 73 #[.agg #[.int .i64 op, v1, v2, v3]] w fun e w' => e = .returned (.int .i64 (needT op)) ∧ Below w.heap.size w w' := by
  have HN : Hid (needT op = if op = 6 then 1 else 2) := rfl
  by_cases h6 : op = 6
  · subst h6
    rw [show needT 6 = 1 from rfl]
    clear HN
    go_enter Try.func73, Try.ntmps73
    go_wp2_with fail
    go_ret
    exact ⟨rfl, (Below.refl _ _).alloc (Nat.le_refl _) _⟩
  · rw [HN.out, if_neg h6]
    have h6' : (op == 6) = false := beq_eq_false_iff_ne.2 h6
    clear HN
    go_enter Try.func73, Try.ntmps73
    go_wp2_with fail
    go_ret
    exact ⟨rfl, (Below.refl _ _).alloc (Nat.le_refl _) _⟩
theorem fitT_noX {op : Int} {nm : ByteArray} {x : List Ex} {l : List Te} {j : Nat} {c : Ex} (h : x[j]? = some c) (hne : kE c ≠ needT op) : fitT (.mk op nm x l) = false := by
  rw [fitT]
  have : (x.all fun e => decide (kE e = needT op)) = false := by
    rw [List.all_eq_false]; exact ⟨c, List.mem_of_getElem? h, by simpa using hne⟩
  rw [this]; rfl
theorem fitT_noT {op : Int} {nm : ByteArray} {x : List Ex} {l : List Te} {j : Nat} {c : Te} (h : l[j]? = some c) (hne : fitT c = false) : fitT (.mk op nm x l) = false := by
  rw [fitT, fitT_go]
  have : l.all fitT = false := by
    rw [List.all_eq_false]; exact ⟨c, List.mem_of_getElem? h, by simp [hne]⟩
  rw [this, Bool.and_false]
theorem fitT_yes {op : Int} {nm : ByteArray} {x : List Ex} {l : List Te} (h1 : ∀ (j : Nat) c, x[j]? = some c → kE c = needT op) (h2 : ∀ (j : Nat) c, l[j]? = some c → fitT c = true) : fitT (.mk op nm x l) = true := by
  rw [fitT, fitT_go, Bool.and_eq_true, List.all_eq_true, List.all_eq_true]
  constructor
  · intro c hc
    obtain ⟨j, hj⟩ := List.getElem?_of_mem hc
    simpa using h1 j c hj
  · intro c hc
    obtain ⟨j, hj⟩ := List.getElem?_of_mem hc
    exact h2 j c hj
set_option maxRecDepth 100000 in
set_option maxHeartbeats 4000000 in
theorem fits_any : ∀ (r : Nat) (e : Te), e.rk ≤ r → bT e = true → ∀ (cs : List Value) (w : World), RepT w [] e cs →
    Calls Try.prog 48 #[.agg cs.toArray] w fun x w' => x = .returned (.bool (fitT e)) ∧ Below w.heap.size w w' := by
  intro r
  induction r with
  | zero => intro e h; have := e.rk_pos; omega
  | succ r ih =>
    intro e hr hb cs w hR
    obtain ⟨op, nm, exprs, terms, a, len, cap, a2, len2, cap2, rfl, rfl, i1, i3, hS, hS2⟩ := hR.inv
    obtain ⟨-, -, -, g4, g5⟩ := bT_inv hb
    obtain ⟨f1, f2, f3⟩ := hS.facts
    obtain ⟨f4, f5, f6⟩ := hS2.facts
    have HI : Hid (∀ (k : Nat) e1, terms[k]? = some e1 → ∀ cs1 W, RepT W [] e1 cs1 → Calls Try.prog 48 #[.agg cs1.toArray] W fun x w' => x = .returned (.bool (fitT e1)) ∧ Below W.heap.size W w') := by
      intro k e1 hk cs1 W hR1
      exact ih e1 (by have := Te.rk_lt (op := op) (nm := nm) (x := exprs) hk; omega) (g5 e1 (List.mem_of_getElem? hk)) cs1 W hR1
    have HK : Hid (∀ (k : Nat) e1, exprs[k]? = some e1 → ∀ cs1 W, RepE W [] e1 cs1 → Calls Try.prog 57 #[.agg cs1.toArray] W fun x w' => x = .returned (.int .i64 (kE e1)) ∧ Below W.heap.size W w') := by
      intro k e1 hk cs1 W hR1
      exact kind_any e1.rk e1 (Nat.le_refl _) (g4 e1 (List.mem_of_getElem? hk)) cs1 W hR1
    have HNX := Lib.hid (fun (j : Nat) c (h : exprs[j]? = some c) (hne : kE c ≠ needT op) => fitT_noX (nm := nm) (l := terms) h hne)
    have HNT := Lib.hid (fun (j : Nat) c (h : terms[j]? = some c) (hne : fitT c = false) => fitT_noT (op := op) (nm := nm) (x := exprs) h hne)
    have HY := Lib.hid (fun (h1 : ∀ (j : Nat) c, exprs[j]? = some c → kE c = needT op) (h2 : ∀ (j : Nat) c, terms[j]? = some c → fitT c = true) => fitT_yes (nm := nm) h1 h2)
    have HN := Lib.hid (fun W => needs_any op (.string nm) (.slice a len cap) (.slice a2 len2 cap2) W)
    have HB0 := Lib.hid ((Below.refl w.heap.size w).alloc (Nat.le_refl _) (.cells #[.int .i64 op, .string nm, .slice a len cap, .slice a2 len2 cap2] 35))
    have BX := Lib.hid (Mem.Blk.new w 35 #[.int .i64 op, .string nm, .slice a len cap, .slice a2 len2 cap2])
    have HSS := Lib.hid (hS.kept (Kept.of_below HB0.out []))
    have HST := Lib.hid (hS2.kept (Kept.of_below HB0.out []))
    have HL := Lib.hid f1
    have HL2 := Lib.hid f4
    clear ih hr hR hS hS2 i1 i3 f1 f4 g4 g5 hb
    generalize fitT (.mk op nm exprs terms) = R at *
    generalize needT op = nd at *
    go_enter Try.func48, Try.ntmps48
    go_upto_region 1 with (fail)
    generalize w.alloc (.cells #[.int .i64 op, .string nm, .slice a len cap, .slice a2 len2 cap2] 35) = v at *
    obtain ⟨c0, c1, c2, c3, -, -, -, -⟩ := blk4 BX.out
    go_wp2_with fail
    go_loopw [10] (fun i wr => ∃ k : Nat, i = .int .i64 (k : Nat) ∧ k ≤ len ∧ Hid (Below v.heap.size v wr) ∧ Hid (∀ (j : Nat) x, j < k → exprs[j]? = some x → kE x = nd)) (fun i _ => len - (intOf i).toNat)
    case atStart => exact ⟨0, rfl, Nat.zero_le _, Below.refl _ _, fun j x h => by omega⟩
    case round =>
      obtain ⟨k, rfl, hk, HB, HP⟩ := hrel
      have t0 := cell_up c0 HB.out
      have t1 := cell_up c1 HB.out
      have t2 := cell_up c2 HB.out
      have t3 := cell_up c3 HB.out
      clear c0 c1 c2 c3
      by_cases hlt : k < len
      · obtain ⟨b, o, cop, cn, cnm, cargs, ca, clen, ccap, rfl, -, -, hxe, j1, j2, j3, hSc, v0, v1, v2, v3⟩ := (HSS.out.kept (Kept.of_below HB.out [])).at k hlt
        have j1' : (k : Int) < (len : Int) := by omega
        have j0' : (0 : Int) ≤ (k : Int) := by omega
        have HXE := Lib.hid hxe
        have HSC := Lib.hid (RepE.mk' j1 j2 j3 hSc)
        clear hxe j1 j2 j3 hSc
        go_upto_region 4 with (fail)
        have hfa := (Below.refl wr.heap.size wr).alloc (Nat.le_refl _) (.cells #[.int .i64 cop, .int .i64 cn, .string cnm, .slice ca clen ccap] 46)
        have BV := Lib.hid (Mem.Blk.new wr 46 #[.int .i64 cop, .int .i64 cn, .string cnm, .slice ca clen ccap])
        have HV := Lib.hid (HB.out.trans (hfa.mono HB.out.size))
        have HC := Lib.hid (fun W (hW : Below wr.heap.size wr W) => HK.out k _ HXE.out _ _ (HSC.out.kept (Kept.of_below hW [])))
        have HFA := Lib.hid hfa
        have t0' := cell_up t0 hfa
        have t1' := cell_up t1 hfa
        have t2' := cell_up t2 hfa
        have t3' := cell_up t3 hfa
        clear hfa HB HSC v0 v1 v2 v3 t0 t1 t2 t3
        generalize wr.alloc (.cells #[.int .i64 cop, .int .i64 cn, .string cnm, .slice ca clen ccap] 46) = v4 at *
        obtain ⟨u0, u1, u2, u3, -, -, -, -⟩ := blk4 BV.out
        have HX2 : Hid (∀ x, exprs[k]? = some x → kE x = kE (Ex.mk cop cn cnm cargs)) := fun x hx => by rw [HXE.out] at hx; injection hx with hx; rw [hx]
        have HX3 : Hid (kE (Ex.mk cop cn cnm cargs) ≠ nd → R = false) := fun h => HNX.out k _ HXE.out h
        generalize kE (Ex.mk cop cn cnm cargs) = kc at *
        go_wp2_with fail
        refine wp_region_till (S := fun W => Below wr.heap.size wr W ∧ Below v4.heap.size v4 W ∧ (W.cell? ⟨wr.heap.size, 0, none⟩ = some (.int .i64 cop) ∧ W.cell? ⟨wr.heap.size, 1, none⟩ = some (.int .i64 cn) ∧ W.cell? ⟨wr.heap.size, 2, none⟩ = some (.string cnm) ∧ W.cell? ⟨wr.heap.size, 3, none⟩ = some (.slice ca clen ccap)) ∧
          W.cell? ⟨w.heap.size, 0, none⟩ = some (.int .i64 op) ∧ W.cell? ⟨w.heap.size, 1, none⟩ = some (.string nm) ∧ W.cell? ⟨w.heap.size, 2, none⟩ = some (.slice (some ⟨b, o, none⟩) len cap) ∧ W.cell? ⟨w.heap.size, 3, none⟩ = some (.slice a2 len2 cap2)) 4 (by kernel_rfl) ?_
        have D1 := HFA.out.drew
        have D2 := (Below.refl v4.heap.size v4).drew
        refine till_take (i := 0) (v := ?_) rfl (by kernel_rfl) (fun _ _ _ h => h) (Or.inl ⟨by rfl, ?_⟩) ⟨D1,D2,⟨u0,u1,u2,u3⟩,t0',t1',t2',t3'⟩ ?_
        rotate_left
        · intro W hS
          try dsimp only at hS
          go_split_ands
          go_simp
          try with_reducible rfl
        try simp only [Act.put, List.getElem_toArray, List.getElem_cons_zero, List.getElem_cons_succ, List.setIfInBounds_toArray, List.set_cons_zero, List.set_cons_succ]
        refine till_take (i := 2) (v := ?_) rfl (by kernel_rfl) (fun _ _ _ h => h) (Or.inl ⟨by rfl, ?_⟩) ⟨D1,D2,⟨u0,u1,u2,u3⟩,t0',t1',t2',t3'⟩ ?_
        rotate_left
        · intro W hS
          try dsimp only at hS
          go_split_ands
          go_simp
          try with_reducible rfl
        try simp only [Act.put, List.getElem_toArray, List.getElem_cons_zero, List.getElem_cons_succ, List.setIfInBounds_toArray, List.set_cons_zero, List.set_cons_succ]
        refine till_one (i := 1) (by kernel_rfl) rfl (fun K' hK => ?_)
        go_simp
        go_at_call 57
        (with_reducible refine (HC.out _ HFA.out.drew).mono ?_)
        rintro y w1 ⟨rfl, bb⟩
        have hb1 := HFA.out.drew.trans (bb.mono HFA.out.drew.size)
        have hb2 := ((Below.refl v4.heap.size v4).drew).trans (bb.mono ((Below.refl v4.heap.size v4).drew).size)
        refine hK _ _ ⟨hb1, hb2, ⟨cell_up (w := v4.drew) u0 bb, cell_up (w := v4.drew) u1 bb, cell_up (w := v4.drew) u2 bb, cell_up (w := v4.drew) u3 bb⟩, cell_up (w := v4.drew) t0' bb, cell_up (w := v4.drew) t1' bb, cell_up (w := v4.drew) t2' bb, cell_up (w := v4.drew) t3' bb⟩ ?_
        have HB2 := Lib.hid hb2
        clear hK K' bb hb1 hb2
        try simp only [Act.put, List.getElem_toArray, List.getElem_cons_zero, List.getElem_cons_succ, List.setIfInBounds_toArray, List.set_cons_zero, List.set_cons_succ]
        refine till_one (i := 3) (by kernel_rfl) rfl (fun K' hK => ?_)
        go_simp
        go_at_call 73
        (with_reducible refine (HN.out _).mono ?_)
        rintro y w2 ⟨rfl, bb⟩
        have hb3 := HB2.out.trans (bb.mono HB2.out.size)
        have hv3 := HV.out.trans (hb3.mono HV.out.size)
        refine hK _ _ ⟨HFA.out.trans (hb3.mono HFA.out.size), hb3, ⟨cell_up u0 hb3, cell_up u1 hb3, cell_up u2 hb3, cell_up u3 hb3⟩, cell_up t0' hb3, cell_up t1' hb3, cell_up t2' hb3, cell_up t3' hb3⟩ ?_
        have HV3 := Lib.hid hv3
        clear hK K' bb hb3 hv3 HB2 D1 D2
        try simp only [Act.put, List.getElem_toArray, List.getElem_cons_zero, List.getElem_cons_succ, List.setIfInBounds_toArray, List.set_cons_zero, List.set_cons_succ]
        refine till_last (by kernel_rfl) rfl (by kernel_rfl) (fun K' hK => ?_)
        go_simp
        refine hK _ _ ?_
        clear hK K'
        refine wpAny_done (by kernel_rfl) ?_ _
        clear HC HFA BV HV u0 u1 u2 u3 t0' t1' t2' t3'
        by_cases hkc : kc = nd
        · subst hkc
          have FIN : Hid (∀ (j : Nat) x, j < k + 1 → exprs[j]? = some x → kE x = kc) := fun j x hj hx => by
            rcases Nat.eq_or_lt_of_le (Nat.le_of_lt_succ hj) with rfl | h
            · exact HX2.out x hx
            · exact HP.out j x h hx
          clear HX2 HX3 HP HXE
          go_wp2_with fail
          go_roundw
          case rel => exact ⟨k + 1, by go_num, by omega, HV3.out, FIN.out⟩
          case measure => simp [intOf]; omega
        · obtain rfl := HX3.out hkc
          have hkc' : (kc == nd) = false := beq_eq_false_iff_ne.2 hkc
          have HF := Lib.hid (HB0.out.trans (HV3.out.mono HB0.out.size))
          clear HX2 HX3 HP HXE
          go_wp2_with fail
          go_ret
          exact ⟨rfl, HF.out⟩
      · have hk' : ¬ (k : Int) < (len : Int) := by omega
        have HPX : Hid (∀ (j : Nat) x, exprs[j]? = some x → kE x = nd) := fun j x hx => HP.out j x (by have h1 := (List.getElem?_eq_some_iff.1 hx).1; have h2 := HL.out; omega) hx
        clear HP HK HN HNX HL HSS
        go_wp2_with fail
        go_loopw [23] (fun i w2 => ∃ m : Nat, i = .int .i64 (m : Nat) ∧ m ≤ len2 ∧ Hid (Below v.heap.size v w2) ∧ Hid (∀ (j : Nat) x, j < m → terms[j]? = some x → fitT x = true)) (fun i _ => len2 - (intOf i).toNat)
        case atStart => exact ⟨0, rfl, Nat.zero_le _, HB.out, fun j x h => by omega⟩
        case round =>
          clear HB t0 t1 t2 t3
          obtain ⟨m, rfl, hm, HB, HP⟩ := hrel
          by_cases hlt2 : m < len2
          · obtain ⟨b, o, cop, cnm, cex, cte, ca, clen, ccap, ca2, clen2, ccap2, rfl, -, -, hxe, j1, j3, hSc, hSc2, v0, v1, v2, v3⟩ := (HST.out.kept (Kept.of_below HB.out [])).at m hlt2
            have j1' : (m : Int) < (len2 : Int) := by omega
            have j0' : (0 : Int) ≤ (m : Int) := by omega
            have HXE := Lib.hid hxe
            have HSC := Lib.hid (RepT.mk' j1 j3 hSc hSc2)
            clear hxe j1 j3 hSc hSc2
            go_upto_region 10 with (fail)
            have hfa := (Below.refl wr.heap.size wr).alloc (Nat.le_refl _) (.cells #[.int .i64 cop, .string cnm, .slice ca clen ccap, .slice ca2 clen2 ccap2] 35)
            have BV := Lib.hid (Mem.Blk.new wr 35 #[.int .i64 cop, .string cnm, .slice ca clen ccap, .slice ca2 clen2 ccap2])
            have HV := Lib.hid (HB.out.trans (hfa.mono HB.out.size))
            have HC := Lib.hid (HI.out m _ HXE.out _ _ (HSC.out.kept (Kept.of_below hfa [])))
            clear hfa HB HSC v0 v1 v2 v3
            generalize wr.alloc (.cells #[.int .i64 cop, .string cnm, .slice ca clen ccap, .slice ca2 clen2 ccap2] 35) = v4 at *
            obtain ⟨u0, u1, u2, u3, -, -, -, -⟩ := blk4 BV.out
            have HX2 : Hid (∀ x, terms[m]? = some x → fitT x = fitT (Te.mk cop cnm cex cte)) := fun x hx => by rw [HXE.out] at hx; injection hx with hx; rw [hx]
            have HX3 : Hid (fitT (Te.mk cop cnm cex cte) = false → R = false) := fun h => HNT.out m _ HXE.out h
            generalize fitT (Te.mk cop cnm cex cte) = kc at *
            cases kc
            · obtain rfl := HX3.out rfl
              go_wp2_with fail
              go_at_call 48
              (with_reducible refine HC.out.mono ?_)
              rintro y w3 ⟨rfl, bb⟩
              have HF := Lib.hid (HB0.out.trans ((HV.out.trans (bb.mono HV.out.size)).mono HB0.out.size))
              clear bb HC HV BV HX2 HX3 HP
              go_wp2_with fail
              go_ret
              exact ⟨rfl, HF.out⟩
            · have FIN : Hid (∀ (j : Nat) x, j < m + 1 → terms[j]? = some x → fitT x = true) := fun j x hj hx => by
                rcases Nat.eq_or_lt_of_le (Nat.le_of_lt_succ hj) with rfl | h
                · exact HX2.out x hx
                · exact HP.out j x h hx
              go_wp2_with fail
              go_at_call 48
              (with_reducible refine HC.out.mono ?_)
              rintro y w3 ⟨rfl, bb⟩
              have HF := Lib.hid (HV.out.trans (bb.mono HV.out.size))
              clear bb HC HV BV HX2 HX3 HP
              go_wp2_with fail
              go_roundw
              case rel => exact ⟨m + 1, by go_num, by omega, HF.out, FIN.out⟩
              case measure => simp [intOf]; omega
          · have hm' : ¬ (m : Int) < (len2 : Int) := by omega
            have hR := HY.out HPX.out (fun j x hx => HP.out j x (by have h1 := (List.getElem?_eq_some_iff.1 hx).1; have h2 := HL2.out; omega) hx)
            have HF := Lib.hid (HB0.out.trans (HB.out.mono HB0.out.size))
            clear HP HPX HY HNT
            subst hR
            go_wp2_with fail
            go_ret
            exact ⟨rfl, HF.out⟩
/-- What Fits answers. -/
def fitC (e : Te) : Int := if rT e then (if fitT e then 0 else 12) else 1
set_option maxRecDepth 100000 in
theorem fitsX_any (e : Te) (cs : List Value) (w : World) (hR : RepT w [] e cs) (hk : e.rk < 1000) :
    Calls Try.prog 16 #[.agg cs.toArray] w fun x w' => x = .returned (.int .i64 (fitC e)) ∧ Below w.heap.size w w' := by
  have HI : Hid (fitC e = if rT e then (if fitT e then 0 else 12) else 1) := rfl
  have HB := Lib.hid (show rT e = true → bT e = true from fun h => by unfold rT at h; rw [Bool.and_eq_true] at h; exact h.2)
  have HC := Lib.hid (fun W (hW : Below w.heap.size w W) => right_any e cs W (hR.kept (Kept.of_below hW [])) (by omega))
  have HK := Lib.hid (fun W (hW : Below w.heap.size w W) (hb : bT e = true) => fits_any e.rk e (Nat.le_refl _) hb cs W (hR.kept (Kept.of_below hW [])))
  obtain ⟨op, nm, exprs, terms, a, len, cap, a2, len2, cap2, rfl, rfl, i1, i3, hS, hS2⟩ := hR.inv
  have HB0 := Lib.hid ((Below.refl w.heap.size w).alloc (Nat.le_refl _) (.cells #[.int .i64 op, .string nm, .slice a len cap, .slice a2 len2 cap2] 35))
  have BX := Lib.hid (Mem.Blk.new w 35 #[.int .i64 op, .string nm, .slice a len cap, .slice a2 len2 cap2])
  clear i1 i3 hS hS2 hR hk
  generalize (Te.mk op nm exprs terms) = e at *
  cases hr : rT e with
  | true =>
    have hb := HB.out hr
    have HK := Lib.hid (fun W hW => HK.out W hW hb)
    rw [hr, if_pos rfl] at HI
    rw [hr] at HC
    rw [HI.out]
    clear hr hb HB HI
    cases hf : fitT e with
    | true =>
      rw [hf] at HK
      rw [if_pos rfl]
      clear hf
      go_enter Try.func16, Try.ntmps16
      go_upto_region 1 with (fail)
      generalize w.alloc (.cells #[.int .i64 op, .string nm, .slice a len cap, .slice a2 len2 cap2] 35) = v at *
      obtain ⟨c0, c1, c2, c3, -, -, -, -⟩ := blk4 BX.out
      go_wp2_with fail
      go_at_call 22
      (with_reducible refine (HC.out _ HB0.out).mono ?_)
      rintro y w1 ⟨rfl, b1⟩
      have HB1 := Lib.hid (HB0.out.trans (b1.mono HB0.out.size))
      have c0' := cell_up c0 b1
      have c1' := cell_up c1 b1
      have c2' := cell_up c2 b1
      have c3' := cell_up c3 b1
      clear c0 c1 c2 c3
      go_wp2_with fail
      go_at_call 48
      (with_reducible refine (HK.out _ HB1.out).mono ?_)
      rintro y w2 ⟨rfl, b2⟩
      have HB2 := Lib.hid (HB1.out.trans (b2.mono HB1.out.size))
      go_wp2_with fail
      go_ret
      exact ⟨rfl, HB2.out⟩
    | false =>
      rw [hf] at HK
      rw [if_neg (by decide)]
      clear hf
      go_enter Try.func16, Try.ntmps16
      go_upto_region 1 with (fail)
      generalize w.alloc (.cells #[.int .i64 op, .string nm, .slice a len cap, .slice a2 len2 cap2] 35) = v at *
      obtain ⟨c0, c1, c2, c3, -, -, -, -⟩ := blk4 BX.out
      go_wp2_with fail
      go_at_call 22
      (with_reducible refine (HC.out _ HB0.out).mono ?_)
      rintro y w1 ⟨rfl, b1⟩
      have HB1 := Lib.hid (HB0.out.trans (b1.mono HB0.out.size))
      have c0' := cell_up c0 b1
      have c1' := cell_up c1 b1
      have c2' := cell_up c2 b1
      have c3' := cell_up c3 b1
      clear c0 c1 c2 c3
      go_wp2_with fail
      go_at_call 48
      (with_reducible refine (HK.out _ HB1.out).mono ?_)
      rintro y w2 ⟨rfl, b2⟩
      have HB2 := Lib.hid (HB1.out.trans (b2.mono HB1.out.size))
      go_wp2_with fail
      go_ret
      exact ⟨rfl, HB2.out⟩
  | false =>
    rw [hr] at HC HI
    rw [if_neg (by decide)] at HI
    rw [HI.out]
    clear hr HB HI HK
    go_enter Try.func16, Try.ntmps16
    go_upto_region 1 with (fail)
    generalize w.alloc (.cells #[.int .i64 op, .string nm, .slice a len cap, .slice a2 len2 cap2] 35) = v at *
    obtain ⟨c0, c1, c2, c3, -, -, -, -⟩ := blk4 BX.out
    go_wp2_with fail
    go_at_call 22
    (with_reducible refine (HC.out _ HB0.out).mono ?_)
    rintro y w1 ⟨rfl, b1⟩
    have HB1 := Lib.hid (HB0.out.trans (b1.mono HB0.out.size))
    have c0' := cell_up c0 b1
    have c1' := cell_up c1 b1
    have c2' := cell_up c2 b1
    have c3' := cell_up c3 b1
    clear c0 c1 c2 c3
    go_wp2_with fail
    go_ret
    exact ⟨rfl, HB1.out⟩
end Go.Proofs.Ytppnmeobnilojaa

/- The contracts of check.faultExpr, fault, Fault; condition: built trees, not more than 999 deep. -/
namespace Go.Proofs.Ytppnmeobnilojaa
set_option linter.unusedVariables false
set_option linter.unusedSimpArgs false
open Go.RowKit
def pth (o : Option (List Int)) : List Int := o.getD []
/-- A path that is answered, or none. -/
def PathR (w : World) (o : Option (List Int)) (e : Ending) : Prop :=
  ∃ a cap, e = .returned (.tuple #[.slice a (pth o).length cap, .bool o.isSome]) ∧ SlR i64K w [] (pth o) a (pth o).length cap ∧ ((pth o).length = 0 → a = none)
theorem faultE_go_first : ∀ (l : List Ex) (k i : Nat) (c : Ex) (p : List Int), (∀ (j : Nat) x, j < k → l[j]? = some x → faultE x = none) → l[k]? = some c → faultE c = some p → faultE.go i l = ((i + k : Nat) : Int) :: p
  | [], k, i, c, p, _, hk, _ => by simp at hk
  | x :: t, 0, i, c, p, _, hk, hp => by
    simp at hk; subst hk
    simp only [faultE.go, hp, Nat.add_zero]
  | x :: t, k + 1, i, c, p, h, hk, hp => by
    have h0 := h 0 x (by omega) rfl
    have := faultE_go_first t k (i + 1) c p (fun j y hj hy => h (j + 1) y (by omega) hy) (by simpa using hk) hp
    simp only [faultE.go, h0, this]
    congr 2; omega
theorem faultE_some {op n : Int} {nm : ByteArray} {l : List Ex} (h0 : kE (.mk op n nm l) = 0) {k : Nat} {c : Ex} {p : List Int} (h : ∀ (j : Nat) x, j < k → l[j]? = some x → faultE x = none) (hk : l[k]? = some c) (hp : faultE c = some p) : faultE (.mk op n nm l) = some ((k : Int) :: p) := by
  rw [kE_mk] at h0
  rw [faultE, if_neg (by simp [h0]), faultE_go_first l k 0 c p h hk hp, Nat.zero_add]
theorem faultE_here {op n : Int} {nm : ByteArray} {l : List Ex} (h0 : kE (.mk op n nm l) = 0) (h : ∀ (j : Nat) x, l[j]? = some x → faultE x = none) : faultE (.mk op n nm l) = some [] := by
  rw [kE_mk] at h0
  rw [faultE, if_neg (by simp [h0]), faultE_go_nil (fun c hc => by obtain ⟨j, hj⟩ := List.getElem?_of_mem hc; exact h j c hj)]
theorem faultE_go_len {r : Nat} : ∀ (l : List Ex) (i : Nat), (∀ c ∈ l, ∀ p, faultE c = some p → p.length ≤ r) → (faultE.go i l).length ≤ r + 1
  | [], i, _ => by simp [faultE.go]
  | x :: t, i, h => by
    unfold faultE.go
    cases hx : faultE x with
    | none => exact faultE_go_len t (i + 1) (fun c hc => h c (List.mem_cons_of_mem _ hc))
    | some p => have := h x (by simp) p hx; simp; omega
theorem faultE_len : ∀ (r : Nat) (e : Ex), e.rk ≤ r → ∀ p, faultE e = some p → p.length ≤ r := by
  intro r
  induction r with
  | zero => intro e h; have := e.rk_pos; omega
  | succ r ih =>
    intro e hr p hp
    obtain ⟨op, n, nm, l⟩ := e
    rw [faultE] at hp
    split at hp
    · cases hp
    · injection hp with hp
      rw [← hp]
      refine faultE_go_len l 0 (fun c hc q hq => ?_)
      obtain ⟨k, hk⟩ := List.getElem?_of_mem hc
      exact ih c (by have := Ex.rk_lt (op := op) (n := n) (nm := nm) hk; omega) q hq
set_option maxRecDepth 100000 in
set_option maxHeartbeats 4000000 in
theorem faultExpr_any : ∀ (r : Nat) (e : Ex), e.rk ≤ r → r ≤ 1000 → bE e = true → ∀ (cs : List Value) (w : World), RepE w [] e cs →
    Calls Try.prog 74 #[.agg cs.toArray] w fun x w' => PathR w' (faultE e) x ∧ Below w.heap.size w w' := by
  intro r
  induction r with
  | zero => intro e h; have := e.rk_pos; omega
  | succ r ih =>
    intro e hr hr1 hb cs w hR
    have HK := Lib.hid (fun W (hW : Below w.heap.size w W) => kind_any e.rk e (Nat.le_refl _) hb cs W (hR.kept (Kept.of_below hW [])))
    have HFN := Lib.hid (@faultE_none e)
    obtain ⟨op, no, nm, args, a, len, cap, rfl, rfl, i1, i2, i3, hS⟩ := hR.inv
    obtain ⟨-, -, g3⟩ := bE_inv hb
    obtain ⟨f1, f2, f3⟩ := hS.facts
    have HI : Hid (∀ (k : Nat) e1, args[k]? = some e1 → ∀ cs1 W, RepE W [] e1 cs1 → Calls Try.prog 74 #[.agg cs1.toArray] W fun x w' => PathR w' (faultE e1) x ∧ Below W.heap.size W w') := by
      intro k e1 hk cs1 W hR1
      exact ih e1 (by have := Ex.rk_lt (op := op) (n := no) (nm := nm) hk; omega) (by omega) (g3 e1 (List.mem_of_getElem? hk)) cs1 W hR1
    have HLN : Hid (∀ (k : Nat) e1, args[k]? = some e1 → (pth (faultE e1)).length ≤ 1000) := by
      intro k e1 hk
      cases hf : faultE e1 with
      | none => simp [pth]
      | some p => have := faultE_len r e1 (by have := Ex.rk_lt (op := op) (n := no) (nm := nm) hk; omega) p hf; simp [pth]; omega
    have HSM := Lib.hid (fun h0 (k : Nat) c p h hk hp => faultE_some (op := op) (n := no) (nm := nm) (l := args) h0 (k := k) (c := c) (p := p) h hk hp)
    have HHE := Lib.hid (fun h0 h => faultE_here (op := op) (n := no) (nm := nm) (l := args) h0 h)
    have HB0 := Lib.hid ((Below.refl w.heap.size w).alloc (Nat.le_refl _) (.cells #[.int .i64 op, .int .i64 no, .string nm, .slice a len cap] 46))
    have BX := Lib.hid (Mem.Blk.new w 46 #[.int .i64 op, .int .i64 no, .string nm, .slice a len cap])
    have HSS := Lib.hid (hS.kept (Kept.of_below HB0.out []))
    have HL := Lib.hid f1
    clear ih hr hR hS i1 i2 i3 f1 g3 hb hr1
    generalize faultE (.mk op no nm args) = R at *
    generalize kE (.mk op no nm args) = ke at *
    by_cases hke : ke = 0
    · subst hke
      have HSM' := Lib.hid (HSM.out rfl)
      have HHE' := Lib.hid (HHE.out rfl)
      clear HFN HSM HHE
      go_enter Try.func74, Try.ntmps74
      go_upto_region 1 with (fail)
      generalize w.alloc (.cells #[.int .i64 op, .int .i64 no, .string nm, .slice a len cap] 46) = v at *
      obtain ⟨e0, e1, e2, e3, -, -, -, -⟩ := blk4 BX.out
      go_wp2_with fail
      go_at_call 57
      (with_reducible refine (HK.out _ HB0.out).mono ?_)
      rintro y w1 ⟨rfl, b1⟩
      have HB1 := Lib.hid b1
      have c0 := cell_up e0 b1
      have c1 := cell_up e1 b1
      have c2 := cell_up e2 b1
      have c3 := cell_up e3 b1
      clear b1 e0 e1 e2 e3 HK
      go_wp2_with fail
      go_loopw [14] (fun i wr => ∃ k : Nat, i = .int .i64 (k : Nat) ∧ k ≤ len ∧ Hid (Below v.heap.size v wr) ∧ Hid (∀ (j : Nat) x, j < k → args[j]? = some x → faultE x = none)) (fun i _ => len - (intOf i).toNat)
      case atStart => exact ⟨0, rfl, Nat.zero_le _, HB1.out, fun j x h => by omega⟩
      case round =>
        obtain ⟨k, rfl, hk, HB, HP⟩ := hrel
        clear c0 c1 c2 c3 HB1
        by_cases hlt : k < len
        · obtain ⟨b, o, cop, cn, cnm, cargs, ca, clen, ccap, rfl, -, -, hxe, j1, j2, j3, hSc, v0, v1, v2, v3⟩ := (HSS.out.kept (Kept.of_below HB.out [])).at k hlt
          have j1' : (k : Int) < (len : Int) := by omega
          have j0' : (0 : Int) ≤ (k : Int) := by omega
          have HXE := Lib.hid hxe
          have HSC := Lib.hid (RepE.mk' j1 j2 j3 hSc)
          clear hxe j1 j2 j3 hSc
          go_upto_region 6 with (fail)
          have hfa := (Below.refl wr.heap.size wr).alloc (Nat.le_refl _) (.cells #[.int .i64 cop, .int .i64 cn, .string cnm, .slice ca clen ccap] 46)
          have BV := Lib.hid (Mem.Blk.new wr 46 #[.int .i64 cop, .int .i64 cn, .string cnm, .slice ca clen ccap])
          have HV := Lib.hid (HB.out.trans (hfa.mono HB.out.size))
          have HC := Lib.hid (HI.out k _ HXE.out _ _ (HSC.out.kept (Kept.of_below hfa [])))
          clear hfa HB HSC v0 v1 v2 v3
          generalize wr.alloc (.cells #[.int .i64 cop, .int .i64 cn, .string cnm, .slice ca clen ccap] 46) = v4 at *
          obtain ⟨u0, u1, u2, u3, -, -, -, -⟩ := blk4 BV.out
          have HX2 : Hid (∀ x, args[k]? = some x → faultE x = faultE (Ex.mk cop cn cnm cargs)) := fun x hx => by rw [HXE.out] at hx; injection hx with hx; rw [hx]
          have HX3 : Hid (∀ p, faultE (Ex.mk cop cn cnm cargs) = some p → R = some ((k : Int) :: p)) := fun p h => HSM'.out k _ p HP.out HXE.out h
          have HX4 := Lib.hid (HLN.out k _ HXE.out)
          generalize faultE (Ex.mk cop cn cnm cargs) = kc at *
          go_wp2_with fail
          go_at_call 74
          (with_reducible refine HC.out.mono ?_)
          rintro y w3 ⟨⟨ap, pc, rfl, hP, hn⟩, bb⟩
          have HPA := Lib.hid hP
          have HNL := Lib.hid hn
          have HF := Lib.hid (HV.out.trans (bb.mono HV.out.size))
          clear bb HC HV BV hP hn u0 u1 u2 u3
          cases kc with
          | none =>
            have FIN : Hid (∀ (j : Nat) x, j < k + 1 → args[j]? = some x → faultE x = none) := fun j x hj hx => by
              rcases Nat.eq_or_lt_of_le (Nat.le_of_lt_succ hj) with rfl | h
              · exact HX2.out x hx
              · exact HP.out j x h hx
            clear HX2 HX3 HP HXE HPA HNL
            go_wp2_with fail
            go_roundw
            case rel => exact ⟨k + 1, by go_num, by omega, HF.out, FIN.out⟩
            case measure => simp [intOf]; omega
          | some p =>
            obtain rfl := HX3.out p rfl
            have hki : I64 (k : Int) := by unfold I64; omega
            have HKI := Lib.hid hki
            have HFT := Lib.hid (HB0.out.trans (HF.out.mono HB0.out.size))
            have HX4' : Hid (p.length ≤ 1000) := HX4.out
            clear HX2 HX3 HP HXE HX4 hki HF
            go_wp2_with (at_builtin; refine ap_sl (base := w.heap.size) infoI Try.underlying27 rfl rfl (.tmp 26) (.tmp 27) rfl rfl (World.ownsRow_lit w3 #[.int .i64 (k : Int)] 1 HFT.out.size (by decide) rfl) (HFT.out.alloc HFT.out.size _).size (HPA.out.kept (Kept.alloc w3 _ [])) rfl HNL.out (by have h := HX4'.out; show 1 + p.length ≤ _; unfold maxLen; omega) (by have h := HX4'.out; show (1 + p.length) * 8 ≤ _; omega) ?_; intro v' w' o' g' h'; have HO := Lib.hid o'; have HG := Lib.hid g'; clear o' g' h')
            obtain ⟨aa, cc, rfl, hSF⟩ := own_ints (l := (k : Int) :: p) (by have h := HO.out; exact h) (by have h := HO.out; have h2 := HG.out.size; have h3 := (HFT.out.alloc HFT.out.size (.cells #[.int .i64 (k : Int)] 3)).size; omega) (by simp [pth]; omega) (fun x hx => by
              rcases List.mem_cons.1 hx with rfl | hx
              · exact HKI.out
              · exact HPA.out.i64 x hx)
            have HSF := Lib.hid hSF
            have e : Hid (1 + (pth (some p)).length = (pth (some ((k : Int) :: p))).length) := by show _ = _; simp [pth]; omega
            have HFF := Lib.hid ((HFT.out.alloc HFT.out.size (.cells #[.int .i64 (k : Int)] 3)).grown HG.out (HFT.out.alloc HFT.out.size (.cells #[.int .i64 (k : Int)] 3)).size (fun b hb => by injection hb with hb; subst hb; exact HFT.out.size))
            clear hSF
            go_ret2
            exact ⟨⟨aa, cc, congrArg (fun n => Ending.returned (.tuple #[.slice aa n cc, .bool true])) e.out, e.out ▸ HSF.out, fun h => absurd h (by simp [pth])⟩, HFF.out⟩
        · have hk' : ¬ (k : Int) < (len : Int) := by omega
          have hR := HHE'.out (fun j x hx => HP.out j x (by have h1 := (List.getElem?_eq_some_iff.1 hx).1; have h2 := HL.out; omega) hx)
          have HF := Lib.hid (HB0.out.trans (HB.out.mono HB0.out.size))
          clear HP HHE' HSM'
          subst hR
          go_wp2_with fail
          go_ret2
          exact ⟨⟨none, 0, rfl, SlR.nil _ _ _, fun _ => rfl⟩, HF.out⟩
    · have hke' : (ke == 0) = false := beq_eq_false_iff_ne.2 hke
      have hR := HFN.out.2 hke
      clear HSM HHE HFN HI HLN
      subst hR
      go_enter Try.func74, Try.ntmps74
      go_upto_region 1 with (fail)
      generalize w.alloc (.cells #[.int .i64 op, .int .i64 no, .string nm, .slice a len cap] 46) = v at *
      obtain ⟨e0, e1, e2, e3, -, -, -, -⟩ := blk4 BX.out
      go_wp2_with fail
      go_at_call 57
      (with_reducible refine (HK.out _ HB0.out).mono ?_)
      rintro y w1 ⟨rfl, b1⟩
      have HB1 := Lib.hid b1
      have c0 := cell_up e0 b1
      have c1 := cell_up e1 b1
      have c2 := cell_up e2 b1
      have c3 := cell_up e3 b1
      clear b1 e0 e1 e2 e3 HK
      go_wp2_with fail
      go_ret2
      exact ⟨⟨none, 0, rfl, SlR.nil _ _ _, fun _ => rfl⟩, HB0.out.trans (HB1.out.mono HB0.out.size)⟩
end Go.Proofs.Ytppnmeobnilojaa

/- The contracts of check.fault, Fault; condition: built terms, not more than 999 deep. -/
namespace Go.Proofs.Ytppnmeobnilojaa
set_option linter.unusedVariables false
set_option linter.unusedSimpArgs false
open Go.RowKit
theorem arX_le3 (op : Int) : arX op ≤ 3 := by
  unfold arX
  repeat' split
  all_goals omega
theorem arT_le3 (op : Int) : arT op ≤ 3 := by
  unfold arT
  repeat' split
  all_goals omega
theorem firstX_at {op : Int} : ∀ (x : List Ex) (k i : Nat) (c : Ex), (∀ (j : Nat) y, j < k → x[j]? = some y → kE y = needT op) → x[k]? = some c → kE c ≠ needT op → firstX op i x = some (((i + k : Nat) : Int) :: pth (faultE c))
  | [], k, i, c, _, hk, _ => by simp at hk
  | y :: t, 0, i, c, _, hk, hp => by
    simp at hk; subst hk
    rw [firstX, if_neg hp]; rfl
  | y :: t, k + 1, i, c, h, hk, hp => by
    have h0 := h 0 y (by omega) rfl
    have := firstX_at t k (i + 1) c (fun j z hj hz => h (j + 1) z (by omega) hz) (by simpa using hk) hp
    rw [firstX, if_pos h0, this]
    congr 2; omega
theorem firstX_none {op : Int} : ∀ (x : List Ex) (i : Nat), (∀ (j : Nat) y, x[j]? = some y → kE y = needT op) → firstX op i x = none
  | [], i, _ => rfl
  | y :: t, i, h => by
    rw [firstX, if_pos (h 0 y rfl)]
    exact firstX_none t (i + 1) (fun j z hz => h (j + 1) z hz)
theorem faultT_go_at : ∀ (l : List Te) (k i : Nat) (c : Te) (p : List Int), (∀ (j : Nat) x, j < k → l[j]? = some x → faultT x = none) → l[k]? = some c → faultT c = some p → faultT.go i l = some (((i + k : Nat) : Int) :: p)
  | [], k, i, c, p, _, hk, _ => by simp at hk
  | x :: t, 0, i, c, p, _, hk, hp => by
    simp at hk; subst hk
    simp only [faultT.go, hp, Nat.add_zero]
  | x :: t, k + 1, i, c, p, h, hk, hp => by
    have h0 := h 0 x (by omega) rfl
    have := faultT_go_at t k (i + 1) c p (fun j y hj hy => h (j + 1) y (by omega) hy) (by simpa using hk) hp
    simp only [faultT.go, h0, this]
    congr 2; omega
theorem faultT_go_none : ∀ (l : List Te) (i : Nat), (∀ (j : Nat) x, l[j]? = some x → faultT x = none) → faultT.go i l = none
  | [], i, _ => rfl
  | x :: t, i, h => by
    simp only [faultT.go, h 0 x rfl]
    exact faultT_go_none t (i + 1) (fun j z hz => h (j + 1) z hz)
theorem faultT_X {op : Int} {nm : ByteArray} {x : List Ex} {l : List Te} {k : Nat} {c : Ex} (h : ∀ (j : Nat) y, j < k → x[j]? = some y → kE y = needT op) (hk : x[k]? = some c) (hp : kE c ≠ needT op) : faultT (.mk op nm x l) = some ((k : Int) :: pth (faultE c)) := by
  rw [faultT, firstX_at x k 0 c h hk hp, Nat.zero_add]
theorem faultT_T {op : Int} {nm : ByteArray} {x : List Ex} {l : List Te} {k : Nat} {c : Te} {p : List Int} (h : ∀ (j : Nat) y, x[j]? = some y → kE y = needT op) (h2 : ∀ (j : Nat) y, j < k → l[j]? = some y → faultT y = none) (hk : l[k]? = some c) (hp : faultT c = some p) : faultT (.mk op nm x l) = some (((x.length + k : Nat) : Int) :: p) := by
  rw [faultT, firstX_none x 0 h]
  exact faultT_go_at l k x.length c p h2 hk hp
theorem faultT_no {op : Int} {nm : ByteArray} {x : List Ex} {l : List Te} (h : ∀ (j : Nat) y, x[j]? = some y → kE y = needT op) (h2 : ∀ (j : Nat) y, l[j]? = some y → faultT y = none) : faultT (.mk op nm x l) = none := by
  rw [faultT, firstX_none x 0 h]
  exact faultT_go_none l x.length h2
theorem firstX_len {op : Int} {r : Nat} : ∀ (x : List Ex) (i : Nat), (∀ c ∈ x, c.rk ≤ r) → ∀ p, firstX op i x = some p → p.length ≤ r + 1
  | [], i, _, p, h => by cases h
  | y :: t, i, h, p, hp => by
    rw [firstX] at hp
    split at hp
    · exact firstX_len t (i + 1) (fun c hc => h c (List.mem_cons_of_mem _ hc)) p hp
    · injection hp with hp
      rw [← hp]
      cases hf : faultE y with
      | none => simp
      | some q => have := faultE_len r y (h y (by simp)) q hf; simp; omega
theorem faultT_go_len {r : Nat} : ∀ (l : List Te) (i : Nat), (∀ c ∈ l, ∀ p, faultT c = some p → p.length ≤ r) → ∀ p, faultT.go i l = some p → p.length ≤ r + 1
  | [], i, _, p, h => by cases h
  | x :: t, i, h, p, hp => by
    unfold faultT.go at hp
    cases hx : faultT x with
    | none =>
      rw [hx] at hp
      exact faultT_go_len t (i + 1) (fun c hc => h c (List.mem_cons_of_mem _ hc)) p hp
    | some q =>
      rw [hx] at hp
      injection hp with hp
      have := h x (by simp) q hx
      rw [← hp]; simp; omega
theorem faultT_len : ∀ (r : Nat) (e : Te), e.rk ≤ r → ∀ p, faultT e = some p → p.length ≤ r := by
  intro r
  induction r with
  | zero => intro e h; have : 1 ≤ e.rk := by (obtain ⟨_, _, _, _⟩ := e; simp only [Te.rk]; omega)
            omega
  | succ r ih =>
    intro e hr p hp
    obtain ⟨op, nm, x, l⟩ := e
    rw [faultT] at hp
    cases hf : firstX op 0 x with
    | some q =>
      rw [hf] at hp
      injection hp with hp
      subst hp
      exact firstX_len x 0 (fun c hc => by obtain ⟨k, hk⟩ := List.getElem?_of_mem hc; have := Ex.rkx_lt (op := op) (nm := nm) (l := l) hk; omega) q hf
    | none =>
      rw [hf] at hp
      exact faultT_go_len l x.length (fun c hc q hq => by obtain ⟨k, hk⟩ := List.getElem?_of_mem hc; exact ih c (by have := Te.rk_lt (op := op) (nm := nm) (x := x) hk; omega) q hq) p hp
set_option maxRecDepth 100000 in
set_option maxHeartbeats 4000000 in
theorem fault_any : ∀ (r : Nat) (e : Te), e.rk ≤ r → r ≤ 1000 → bT e = true → ∀ (cs : List Value) (w : World), RepT w [] e cs →
    Calls Try.prog 49 #[.agg cs.toArray] w fun x w' => PathR w' (faultT e) x ∧ Below w.heap.size w w' := by
  intro r
  induction r with
  | zero => intro e h; have := e.rk_pos; omega
  | succ r ih =>
    intro e hr hr1 hb cs w hR
    obtain ⟨op, nm, exprs, terms, a, len, cap, a2, len2, cap2, rfl, rfl, i1, i3, hS, hS2⟩ := hR.inv
    obtain ⟨g1, g2, -, g4, g5⟩ := bT_inv hb
    obtain ⟨f1, f2, f3⟩ := hS.facts
    obtain ⟨f4, f5, f6⟩ := hS2.facts
    have HI : Hid (∀ (k : Nat) e1, terms[k]? = some e1 → ∀ cs1 W, RepT W [] e1 cs1 → Calls Try.prog 49 #[.agg cs1.toArray] W fun x w' => PathR w' (faultT e1) x ∧ Below W.heap.size W w') := by
      intro k e1 hk cs1 W hR1
      exact ih e1 (by have := Te.rk_lt (op := op) (nm := nm) (x := exprs) hk; omega) (by omega) (g5 e1 (List.mem_of_getElem? hk)) cs1 W hR1
    have HK : Hid (∀ (k : Nat) e1, exprs[k]? = some e1 → ∀ cs1 W, RepE W [] e1 cs1 → Calls Try.prog 57 #[.agg cs1.toArray] W fun x w' => x = .returned (.int .i64 (kE e1)) ∧ Below W.heap.size W w') := by
      intro k e1 hk cs1 W hR1
      exact kind_any e1.rk e1 (Nat.le_refl _) (g4 e1 (List.mem_of_getElem? hk)) cs1 W hR1
    have HE : Hid (∀ (k : Nat) e1, exprs[k]? = some e1 → ∀ cs1 W, RepE W [] e1 cs1 → Calls Try.prog 74 #[.agg cs1.toArray] W fun x w' => PathR w' (faultE e1) x ∧ Below W.heap.size W w') := by
      intro k e1 hk cs1 W hR1
      exact faultExpr_any e1.rk e1 (Nat.le_refl _) (by have := Ex.rkx_lt (op := op) (nm := nm) (l := terms) hk; omega) (g4 e1 (List.mem_of_getElem? hk)) cs1 W hR1
    have HLX : Hid (∀ (k : Nat) e1, exprs[k]? = some e1 → (pth (faultE e1)).length ≤ 1000) := by
      intro k e1 hk
      cases hf : faultE e1 with
      | none => simp [pth]
      | some p => have := faultE_len r e1 (by have := Ex.rkx_lt (op := op) (nm := nm) (l := terms) hk; omega) p hf; simp [pth]; omega
    have HLT : Hid (∀ (k : Nat) e1, terms[k]? = some e1 → (pth (faultT e1)).length ≤ 1000) := by
      intro k e1 hk
      cases hf : faultT e1 with
      | none => simp [pth]
      | some p => have := faultT_len r e1 (by have := Te.rk_lt (op := op) (nm := nm) (x := exprs) hk; omega) p hf; simp [pth]; omega
    have HNX := Lib.hid (fun (k : Nat) c h hk hne => faultT_X (op := op) (nm := nm) (l := terms) (x := exprs) (k := k) (c := c) h hk hne)
    have HNT := Lib.hid (fun (k : Nat) c p h h2 hk hp => faultT_T (op := op) (nm := nm) (x := exprs) (l := terms) (k := k) (c := c) (p := p) h h2 hk hp)
    have HY := Lib.hid (fun h h2 => faultT_no (op := op) (nm := nm) (x := exprs) (l := terms) h h2)
    have hx3 : len ≤ 3 := by have := arX_le3 op; omega
    have ht3 : len2 ≤ 3 := by have := arT_le3 op; omega
    have HN := Lib.hid (fun W => needs_any op (.string nm) (.slice a len cap) (.slice a2 len2 cap2) W)
    have HB0 := Lib.hid ((Below.refl w.heap.size w).alloc (Nat.le_refl _) (.cells #[.int .i64 op, .string nm, .slice a len cap, .slice a2 len2 cap2] 35))
    have BX := Lib.hid (Mem.Blk.new w 35 #[.int .i64 op, .string nm, .slice a len cap, .slice a2 len2 cap2])
    have HSS := Lib.hid (hS.kept (Kept.of_below HB0.out []))
    have HST := Lib.hid (hS2.kept (Kept.of_below HB0.out []))
    have HL := Lib.hid f1
    have HL2 := Lib.hid f4
    have HLR := Lib.hid f1
    clear ih hr hr1 hR hS hS2 i1 i3 f1 f4 g1 g2 g4 g5 hb
    generalize faultT (.mk op nm exprs terms) = R at *
    generalize needT op = nd at *
    go_enter Try.func49, Try.ntmps49
    go_upto_region 1 with (fail)
    generalize w.alloc (.cells #[.int .i64 op, .string nm, .slice a len cap, .slice a2 len2 cap2] 35) = v at *
    obtain ⟨c0, c1, c2, c3, -, -, -, -⟩ := blk4 BX.out
    go_wp2_with fail
    go_loopw [15] (fun i wr => ∃ k : Nat, i = .int .i64 (k : Nat) ∧ k ≤ len ∧ Hid (Below v.heap.size v wr) ∧ Hid (∀ (j : Nat) x, j < k → exprs[j]? = some x → kE x = nd)) (fun i _ => len - (intOf i).toNat)
    case atStart => exact ⟨0, rfl, Nat.zero_le _, Below.refl _ _, fun j x h => by omega⟩
    case round =>
      obtain ⟨k, rfl, hk, HB, HP⟩ := hrel
      have t0 := cell_up c0 HB.out
      have t1 := cell_up c1 HB.out
      have t2 := cell_up c2 HB.out
      have t3 := cell_up c3 HB.out
      have HT2 := Lib.hid c2
      clear c0 c1 c2 c3
      by_cases hlt : k < len
      · obtain ⟨b, o, cop, cn, cnm, cargs, ca, clen, ccap, rfl, -, -, hxe, j1, j2, j3, hSc, v0, v1, v2, v3⟩ := (HSS.out.kept (Kept.of_below HB.out [])).at k hlt
        have j1' : (k : Int) < (len : Int) := by omega
        have j0' : (0 : Int) ≤ (k : Int) := by omega
        have HXE := Lib.hid hxe
        have HSC := Lib.hid (RepE.mk' j1 j2 j3 hSc)
        clear hxe j1 j2 j3 hSc
        go_upto_region 4 with (fail)
        have hfa := (Below.refl wr.heap.size wr).alloc (Nat.le_refl _) (.cells #[.int .i64 cop, .int .i64 cn, .string cnm, .slice ca clen ccap] 46)
        have BV := Lib.hid (Mem.Blk.new wr 46 #[.int .i64 cop, .int .i64 cn, .string cnm, .slice ca clen ccap])
        have HV := Lib.hid (HB.out.trans (hfa.mono HB.out.size))
        have HSC0 := Lib.hid HSC.out
        have HC := Lib.hid (fun W (hW : Below wr.heap.size wr W) => HK.out k _ HXE.out _ _ (HSC.out.kept (Kept.of_below hW [])))
        have HFA := Lib.hid hfa
        have t0' := cell_up t0 hfa
        have t1' := cell_up t1 hfa
        have t2' := cell_up t2 hfa
        have t3' := cell_up t3 hfa
        clear hfa HB HSC v0 v1 v2 v3 t0 t1 t2 t3
        generalize wr.alloc (.cells #[.int .i64 cop, .int .i64 cn, .string cnm, .slice ca clen ccap] 46) = v4 at *
        obtain ⟨u0, u1, u2, u3, -, -, -, -⟩ := blk4 BV.out
        have HX2 : Hid (∀ x, exprs[k]? = some x → kE x = kE (Ex.mk cop cn cnm cargs)) := fun x hx => by rw [HXE.out] at hx; injection hx with hx; rw [hx]
        have HX3 : Hid (kE (Ex.mk cop cn cnm cargs) ≠ nd → R = some ((k : Int) :: pth (faultE (Ex.mk cop cn cnm cargs)))) := fun h => HNX.out k _ HP.out HXE.out h
        have HX5 := Lib.hid (HLX.out k _ HXE.out)
        have HX6 := Lib.hid (fun W hW => HE.out k _ HXE.out [.int .i64 cop, .int .i64 cn, .string cnm, .slice ca clen ccap] W hW)
        have HRX := Lib.hid (fun W (hW : Below wr.heap.size wr W) => HSC0.out.kept (Kept.of_below hW []))
        generalize faultE (Ex.mk cop cn cnm cargs) = fc at *
        clear HSC0
        generalize kE (Ex.mk cop cn cnm cargs) = kc at *
        go_wp2_with fail
        refine wp_region_till (S := fun W => Below wr.heap.size wr W ∧ Below v4.heap.size v4 W ∧ (W.cell? ⟨wr.heap.size, 0, none⟩ = some (.int .i64 cop) ∧ W.cell? ⟨wr.heap.size, 1, none⟩ = some (.int .i64 cn) ∧ W.cell? ⟨wr.heap.size, 2, none⟩ = some (.string cnm) ∧ W.cell? ⟨wr.heap.size, 3, none⟩ = some (.slice ca clen ccap)) ∧
          W.cell? ⟨w.heap.size, 0, none⟩ = some (.int .i64 op) ∧ W.cell? ⟨w.heap.size, 1, none⟩ = some (.string nm) ∧ W.cell? ⟨w.heap.size, 2, none⟩ = some (.slice (some ⟨b, o, none⟩) len cap) ∧ W.cell? ⟨w.heap.size, 3, none⟩ = some (.slice a2 len2 cap2)) 4 (by kernel_rfl) ?_
        have D1 := HFA.out.drew
        have D2 := (Below.refl v4.heap.size v4).drew
        refine till_take (i := 0) (v := ?_) rfl (by kernel_rfl) (fun _ _ _ h => h) (Or.inl ⟨by rfl, ?_⟩) ⟨D1,D2,⟨u0,u1,u2,u3⟩,t0',t1',t2',t3'⟩ ?_
        rotate_left
        · intro W hS
          try dsimp only at hS
          go_split_ands
          go_simp
          try with_reducible rfl
        try simp only [Act.put, List.getElem_toArray, List.getElem_cons_zero, List.getElem_cons_succ, List.setIfInBounds_toArray, List.set_cons_zero, List.set_cons_succ]
        refine till_take (i := 2) (v := ?_) rfl (by kernel_rfl) (fun _ _ _ h => h) (Or.inl ⟨by rfl, ?_⟩) ⟨D1,D2,⟨u0,u1,u2,u3⟩,t0',t1',t2',t3'⟩ ?_
        rotate_left
        · intro W hS
          try dsimp only at hS
          go_split_ands
          go_simp
          try with_reducible rfl
        try simp only [Act.put, List.getElem_toArray, List.getElem_cons_zero, List.getElem_cons_succ, List.setIfInBounds_toArray, List.set_cons_zero, List.set_cons_succ]
        refine till_one (i := 1) (by kernel_rfl) rfl (fun K' hK => ?_)
        go_simp
        go_at_call 57
        (with_reducible refine (HC.out _ HFA.out.drew).mono ?_)
        rintro y w1 ⟨rfl, bb⟩
        have hb1 := HFA.out.drew.trans (bb.mono HFA.out.drew.size)
        have hb2 := ((Below.refl v4.heap.size v4).drew).trans (bb.mono ((Below.refl v4.heap.size v4).drew).size)
        refine hK _ _ ⟨hb1, hb2, ⟨cell_up (w := v4.drew) u0 bb, cell_up (w := v4.drew) u1 bb, cell_up (w := v4.drew) u2 bb, cell_up (w := v4.drew) u3 bb⟩, cell_up (w := v4.drew) t0' bb, cell_up (w := v4.drew) t1' bb, cell_up (w := v4.drew) t2' bb, cell_up (w := v4.drew) t3' bb⟩ ?_
        have HB2 := Lib.hid hb2
        clear hK K' bb hb1 hb2
        try simp only [Act.put, List.getElem_toArray, List.getElem_cons_zero, List.getElem_cons_succ, List.setIfInBounds_toArray, List.set_cons_zero, List.set_cons_succ]
        refine till_one (i := 3) (by kernel_rfl) rfl (fun K' hK => ?_)
        go_simp
        go_at_call 73
        (with_reducible refine (HN.out _).mono ?_)
        rintro y w2 ⟨rfl, bb⟩
        have hb3 := HB2.out.trans (bb.mono HB2.out.size)
        have hv3 := HV.out.trans (hb3.mono HV.out.size)
        refine hK _ _ ⟨HFA.out.trans (hb3.mono HFA.out.size), hb3, ⟨cell_up u0 hb3, cell_up u1 hb3, cell_up u2 hb3, cell_up u3 hb3⟩, cell_up t0' hb3, cell_up t1' hb3, cell_up t2' hb3, cell_up t3' hb3⟩ ?_
        have HV3 := Lib.hid hv3
        have HB4 := Lib.hid hb3
        clear hK K' bb hb3 hv3 HB2 D1 D2
        try simp only [Act.put, List.getElem_toArray, List.getElem_cons_zero, List.getElem_cons_succ, List.setIfInBounds_toArray, List.set_cons_zero, List.set_cons_succ]
        refine till_last (by kernel_rfl) rfl (by kernel_rfl) (fun K' hK => ?_)
        go_simp
        refine hK _ _ ?_
        clear hK K'
        refine wpAny_done (by kernel_rfl) ?_ _
        have HW3 := Lib.hid (HFA.out.trans (HB4.out.mono HFA.out.size))
        clear HC HFA BV HV t0' t1' t2' t3'
        by_cases hkc : kc = nd
        · subst hkc
          have FIN : Hid (∀ (j : Nat) x, j < k + 1 → exprs[j]? = some x → kE x = kc) := fun j x hj hx => by
            rcases Nat.eq_or_lt_of_le (Nat.le_of_lt_succ hj) with rfl | h
            · exact HX2.out x hx
            · exact HP.out j x h hx
          clear HX2 HX3 HX5 HX6 HP HXE HRX HB4 HW3 u0 u1 u2 u3
          go_wp2_with fail
          go_roundw
          case rel => exact ⟨k + 1, by go_num, by omega, HV3.out, FIN.out⟩
          case measure => simp [intOf]; omega
        · obtain rfl := HX3.out hkc
          have hkc' : (kc == nd) = false := beq_eq_false_iff_ne.2 hkc
          have HCE := Lib.hid (HX6.out w2 (HRX.out _ HW3.out))
          have d0 := cell_up u0 HB4.out
          have d1 := cell_up u1 HB4.out
          have d2 := cell_up u2 HB4.out
          have d3 := cell_up u3 HB4.out
          have HFT := Lib.hid (HB0.out.trans (HV3.out.mono HB0.out.size))
          have hki : I64 (k : Int) := by unfold I64; omega
          have HKI := Lib.hid hki
          clear HX2 HX3 HP HXE HX6 HRX HW3 HB4 HV3 u0 u1 u2 u3 hki
          go_wp2_with fail
          go_at_call 74
          (with_reducible refine HCE.out.mono ?_)
          rintro y w3 ⟨⟨ap, pc, rfl, hP, hn⟩, bb⟩
          have HPA := Lib.hid hP
          have HNL := Lib.hid hn
          have HF3 := Lib.hid (HFT.out.trans (bb.mono HFT.out.size))
          clear bb hP hn d0 d1 d2 d3 HFT
          go_wp2_with (at_builtin; refine ap_sl (base := w.heap.size) infoI Try.underlying27 rfl rfl (.tmp 31) (.tmp 32) rfl rfl (World.ownsRow_lit w3 #[.int .i64 (k : Int)] 1 HF3.out.size (by decide) rfl) (HF3.out.alloc HF3.out.size _).size (HPA.out.kept (Kept.alloc w3 _ [])) rfl HNL.out (by have h := HX5.out; unfold maxLen; omega) (by have h := HX5.out; omega) ?_; intro v' w' o' g' h'; have HO := Lib.hid o'; have HG := Lib.hid g'; clear o' g' h')
          obtain ⟨aa, cc, rfl, hSF⟩ := own_ints (l := (k : Int) :: (pth<|fc)) (by have h := HO.out; exact h) (by have h := HO.out; have h2 := HG.out.size; have h3 := (HF3.out.alloc HF3.out.size (.cells #[.int .i64 (k : Int)] 3)).size; omega) (by simp; omega) (fun x hx => by
            rcases List.mem_cons.1 hx with rfl | hx
            · exact HKI.out
            · exact HPA.out.i64 x hx)
          have HSF := Lib.hid hSF
          have e : Hid (1 + ((pth<|fc)).length = (pth (some ((k : Int) :: (pth<|fc)))).length) := by show _ = _; simp [pth]; omega
          have HFF := Lib.hid ((HF3.out.alloc HF3.out.size (.cells #[.int .i64 (k : Int)] 3)).grown HG.out (HF3.out.alloc HF3.out.size (.cells #[.int .i64 (k : Int)] 3)).size (fun b hb => by injection hb with hb; subst hb; exact HF3.out.size))
          clear hSF
          go_ret2
          exact ⟨⟨aa, cc, congrArg (fun n => Ending.returned (.tuple #[.slice aa n cc, .bool true])) e.out, e.out ▸ HSF.out, fun h => absurd h (by simp [pth])⟩, HFF.out⟩
      · have hk' : ¬ (k : Int) < (len : Int) := by omega
        have HPX : Hid (∀ (j : Nat) x, exprs[j]? = some x → kE x = nd) := fun j x hx => HP.out j x (by have h1 := (List.getElem?_eq_some_iff.1 hx).1; have h2 := HL.out; omega) hx
        clear HP HK HN HNX HL HSS
        go_wp2_with fail
        go_loopw [38] (fun i w2 => ∃ m : Nat, i = .int .i64 (m : Nat) ∧ m ≤ len2 ∧ Hid (Below v.heap.size v w2) ∧ Hid (∀ (j : Nat) x, j < m → terms[j]? = some x → faultT x = none)) (fun i _ => len2 - (intOf i).toNat)
        case atStart => exact ⟨0, rfl, Nat.zero_le _, HB.out, fun j x h => by omega⟩
        case round =>
          clear HB t0 t1 t2 t3
          obtain ⟨m, rfl, hm, HB, HP⟩ := hrel
          by_cases hlt2 : m < len2
          · obtain ⟨b, o, cop, cnm, cex, cte, ca, clen, ccap, ca2, clen2, ccap2, rfl, -, -, hxe, j1, j3, hSc, hSc2, v0, v1, v2, v3⟩ := (HST.out.kept (Kept.of_below HB.out [])).at m hlt2
            have j1' : (m : Int) < (len2 : Int) := by omega
            have j0' : (0 : Int) ≤ (m : Int) := by omega
            have HXE := Lib.hid hxe
            have HSC := Lib.hid (RepT.mk' j1 j3 hSc hSc2)
            clear hxe j1 j3 hSc hSc2
            go_upto_region 11 with (fail)
            have hfa := (Below.refl wr.heap.size wr).alloc (Nat.le_refl _) (.cells #[.int .i64 cop, .string cnm, .slice ca clen ccap, .slice ca2 clen2 ccap2] 35)
            have BV := Lib.hid (Mem.Blk.new wr 35 #[.int .i64 cop, .string cnm, .slice ca clen ccap, .slice ca2 clen2 ccap2])
            have HV := Lib.hid (HB.out.trans (hfa.mono HB.out.size))
            have HC := Lib.hid (HI.out m _ HXE.out _ _ (HSC.out.kept (Kept.of_below hfa [])))
            clear hfa HB HSC v0 v1 v2 v3
            generalize wr.alloc (.cells #[.int .i64 cop, .string cnm, .slice ca clen ccap, .slice ca2 clen2 ccap2] 35) = v4 at *
            obtain ⟨u0, u1, u2, u3, -, -, -, -⟩ := blk4 BV.out
            have HX2 : Hid (∀ x, terms[m]? = some x → faultT x = faultT (Te.mk cop cnm cex cte)) := fun x hx => by rw [HXE.out] at hx; injection hx with hx; rw [hx]
            have HX3 : Hid (∀ p, faultT (Te.mk cop cnm cex cte) = some p → R = some (((len + m : Nat) : Int) :: p)) := fun p h => by rw [← HLR.out]; exact HNT.out m _ p HPX.out HP.out HXE.out h
            have HX5 := Lib.hid (HLT.out m _ HXE.out)
            generalize faultT (Te.mk cop cnm cex cte) = kc at *
            go_wp2_with fail
            go_at_call 49
            (with_reducible refine HC.out.mono ?_)
            rintro y w3 ⟨⟨ap, pc, rfl, hP, hn⟩, bb⟩
            have HPA := Lib.hid hP
            have HNL := Lib.hid hn
            have HF := Lib.hid (HV.out.trans (bb.mono HV.out.size))
            clear bb HC HV BV hP hn u0 u1 u2 u3
            cases kc with
            | none =>
              have FIN : Hid (∀ (j : Nat) x, j < m + 1 → terms[j]? = some x → faultT x = none) := fun j x hj hx => by
                rcases Nat.eq_or_lt_of_le (Nat.le_of_lt_succ hj) with rfl | h
                · exact HX2.out x hx
                · exact HP.out j x h hx
              clear HX2 HX3 HP HXE HPA HNL HX5
              go_wp2_with fail
              go_roundw
              case rel => exact ⟨m + 1, by go_num, by omega, HF.out, FIN.out⟩
              case measure => simp [intOf]; omega
            | some p =>
              obtain rfl := HX3.out p rfl
              have d2 := cell_up HT2.out HF.out
              have hki : I64 ((len + m : Nat) : Int) := by unfold I64; omega
              have HKI := Lib.hid hki
              have HF3 := Lib.hid (HB0.out.trans (HF.out.mono HB0.out.size))
              have HPA : Hid (SlR i64K w3 [] (pth (some p)) ap (pth (some p)).length pc) := HPA
              have hcast : (len : Int) + (m : Int) = ((len + m : Nat) : Int) := by omega
              have HX5' : Hid (p.length ≤ 1000) := HX5.out
              clear HX2 HX3 HP HXE HF hki HX5
              generalize len + m = N at *
              have HPA : Hid (SlR i64K w3 [] p ap p.length pc) := HPA
              go_wp2_with (at_builtin; refine ap_sl (base := w.heap.size) infoI Try.underlying27 rfl rfl (.tmp 54) (.tmp 55) rfl rfl (World.ownsRow_lit w3 #[.int .i64 (N : Int)] 1 HF3.out.size (by decide) rfl) (HF3.out.alloc HF3.out.size _).size (HPA.out.kept (Kept.alloc w3 _ [])) rfl HNL.out (by have h := HX5'.out; unfold maxLen; omega) (by have h := HX5'.out; omega) ?_; intro v' w' o' g' h'; have HO := Lib.hid o'; have HG := Lib.hid g'; clear o' g' h')
              obtain ⟨aa, cc, rfl, hSF⟩ := own_ints (l := (N : Int) :: p) (by have h := HO.out; exact h) (by have h := HO.out; have h2 := HG.out.size; have h3 := (HF3.out.alloc HF3.out.size (.cells #[.int .i64 (N : Int)] 3)).size; omega) (by simp; omega) (fun x hx => by
                rcases List.mem_cons.1 hx with rfl | hx
                · exact HKI.out
                · exact HPA.out.i64 x hx)
              have HSF := Lib.hid hSF
              have e : Hid (1 + (p).length = (pth (some ((N : Int) :: p))).length) := by show _ = _; simp [pth]; omega
              have HFF := Lib.hid ((HF3.out.alloc HF3.out.size (.cells #[.int .i64 (N : Int)] 3)).grown HG.out (HF3.out.alloc HF3.out.size (.cells #[.int .i64 (N : Int)] 3)).size (fun b hb => by injection hb with hb; subst hb; exact HF3.out.size))
              clear hSF
              go_ret2
              exact ⟨⟨aa, cc, congrArg (fun n => Ending.returned (.tuple #[.slice aa n cc, .bool true])) e.out, e.out ▸ HSF.out, fun h => absurd h (by simp [pth])⟩, HFF.out⟩
          · have hm' : ¬ (m : Int) < (len2 : Int) := by omega
            have hR := HY.out HPX.out (fun j x hx => HP.out j x (by have h1 := (List.getElem?_eq_some_iff.1 hx).1; have h2 := HL2.out; omega) hx)
            have HF := Lib.hid (HB0.out.trans (HB.out.mono HB0.out.size))
            clear HP HPX HY HNT
            subst hR
            go_wp2_with fail
            go_ret2
            exact ⟨⟨none, 0, rfl, SlR.nil _ _ _, fun _ => rfl⟩, HF.out⟩
set_option maxRecDepth 100000 in
theorem faultX_any (e : Te) (cs : List Value) (w : World) (hR : RepT w [] e cs) (hk : e.rk < 1000) :
    Calls Try.prog 17 #[.agg cs.toArray] w fun x w' => PathR w' (if rT e then faultT e else none) x ∧ Below w.heap.size w w' := by
  have HB := Lib.hid (show rT e = true → bT e = true from fun h => by unfold rT at h; rw [Bool.and_eq_true] at h; exact h.2)
  have HC := Lib.hid (fun W (hW : Below w.heap.size w W) => right_any e cs W (hR.kept (Kept.of_below hW [])) (by omega))
  have HK := Lib.hid (fun W (hW : Below w.heap.size w W) (hb : bT e = true) => fault_any e.rk e (Nat.le_refl _) (by omega) hb cs W (hR.kept (Kept.of_below hW [])))
  obtain ⟨op, nm, exprs, terms, a, len, cap, a2, len2, cap2, rfl, rfl, i1, i3, hS, hS2⟩ := hR.inv
  have HB0 := Lib.hid ((Below.refl w.heap.size w).alloc (Nat.le_refl _) (.cells #[.int .i64 op, .string nm, .slice a len cap, .slice a2 len2 cap2] 35))
  have BX := Lib.hid (Mem.Blk.new w 35 #[.int .i64 op, .string nm, .slice a len cap, .slice a2 len2 cap2])
  clear i1 i3 hS hS2 hR hk
  generalize (Te.mk op nm exprs terms) = e at *
  cases hr : rT e with
  | true =>
    have hb := HB.out hr
    have HK := Lib.hid (fun W hW => HK.out W hW hb)
    rw [hr] at HC
    rw [if_pos rfl]
    clear hr hb HB
    generalize faultT e = o at *
    go_enter Try.func17, Try.ntmps17
    go_upto_region 1 with (fail)
    generalize w.alloc (.cells #[.int .i64 op, .string nm, .slice a len cap, .slice a2 len2 cap2] 35) = v at *
    obtain ⟨c0, c1, c2, c3, -, -, -, -⟩ := blk4 BX.out
    go_wp2_with fail
    go_at_call 22
    (with_reducible refine (HC.out _ HB0.out).mono ?_)
    rintro y w1 ⟨rfl, b1⟩
    have HB1 := Lib.hid (HB0.out.trans (b1.mono HB0.out.size))
    have c0' := cell_up c0 b1
    have c1' := cell_up c1 b1
    have c2' := cell_up c2 b1
    have c3' := cell_up c3 b1
    clear c0 c1 c2 c3
    go_wp2_with fail
    go_at_call 49
    (with_reducible refine (HK.out _ HB1.out).mono ?_)
    rintro y w2 ⟨⟨ap, pc, rfl, hP, hn⟩, b2⟩
    have HPA := Lib.hid hP
    have HNL := Lib.hid hn
    have HB2 := Lib.hid (HB1.out.trans (b2.mono HB1.out.size))
    clear hP hn b2 c0' c1' c2' c3'
    go_wp2_with fail
    go_ret2
    exact ⟨⟨ap, pc, rfl, HPA.out, HNL.out⟩, HB2.out⟩
  | false =>
    rw [hr] at HC
    rw [if_neg (by decide)]
    clear hr HB HK
    go_enter Try.func17, Try.ntmps17
    go_upto_region 1 with (fail)
    generalize w.alloc (.cells #[.int .i64 op, .string nm, .slice a len cap, .slice a2 len2 cap2] 35) = v at *
    obtain ⟨c0, c1, c2, c3, -, -, -, -⟩ := blk4 BX.out
    go_wp2_with fail
    go_at_call 22
    (with_reducible refine (HC.out _ HB0.out).mono ?_)
    rintro y w1 ⟨rfl, b1⟩
    have HB1 := Lib.hid (HB0.out.trans (b1.mono HB0.out.size))
    have c0' := cell_up c0 b1
    have c1' := cell_up c1 b1
    have c2' := cell_up c2 b1
    have c3' := cell_up c3 b1
    clear c0 c1 c2 c3
    go_wp2_with fail
    go_ret2
    exact ⟨⟨none, 0, rfl, SlR.nil _ _ _, fun _ => rfl⟩, HB1.out⟩
end Go.Proofs.Ytppnmeobnilojaa

/- SameExpr of the document's answer. -/
namespace Go.Proofs.Ytppnmeobnilojaa
set_option linter.unusedVariables false
set_option linter.unusedSimpArgs false
open Go.RowKit
set_option maxRecDepth 100000 in
set_option maxHeartbeats 2000000 in
theorem rsameExpr_any : ∀ (r : Nat) (e : Ex), e.rk ≤ r → ∀ (e2 : Ex) (cs cs2 : List Value) (w : World), RepE w [] e cs → RepE w [] e2 cs2 →
    Calls Try.prog 27 #[.agg cs.toArray, .agg cs2.toArray] w fun x w' => x = .returned (.bool (eqv e e2)) ∧ Below w.heap.size w w' := by
  intro r
  induction r with
  | zero => intro e h; have : 1 ≤ e.rk := by cases e; simp only [Ex.rk]; omega
            omega
  | succ r ih =>
    intro e hr e2 cs cs2 w hR hR2
    obtain ⟨op, n, nm, args, a, len, cap, rfl, rfl, i1, i2, i3, hS⟩ := hR.inv
    obtain ⟨op2, n2, nm2, args2, a2, len2, cap2, rfl, rfl, i12, i22, i32, hS2⟩ := hR2.inv
    have HI : Hid (∀ (k : Nat) e1 e1' cs1 cs1' W, args[k]? = some e1 → RepE W [] e1 cs1 → RepE W [] e1' cs1' → Calls Try.prog 27 #[.agg cs1.toArray, .agg cs1'.toArray] W fun x w' => x = .returned (.bool (eqv e1 e1')) ∧ Below W.heap.size W w') := by
      intro k e1 e1' cs1 cs1' W hk hR1 hR1'
      exact ih e1 (by have := Ex.rk_lt (op := op) (n := n) (nm := nm) hk; omega) e1' cs1 cs1' W hR1 hR1'
    have HF : Hid (∀ x, eqv (Ex.mk op n nm args) (Ex.mk op2 n2 nm2 args2) = x → Ending.returned (.bool x) = .returned (.bool (eqv (Ex.mk op n nm args) (Ex.mk op2 n2 nm2 args2)))) := fun x h => by rw [h]
    have HE : Hid (op = op2 → n = n2 → nm = nm2 → eqv (Ex.mk op n nm args) (Ex.mk op2 n2 nm2 args2) = eqv args args2) := by
      intro h1 h2 h3; subst h1 h2 h3
      by_cases h : args = args2
      · rw [eqv_yes h, eqv_yes (by rw [h])]
      · rw [eqv_no h, eqv_no (fun hh => h (by injection hh))]
    have HS := Lib.hid hS
    have HS2 := Lib.hid hS2
    obtain ⟨f1, f2, f3⟩ := hS.facts
    obtain ⟨f4, f5, f6⟩ := hS2.facts
    have HL := Lib.hid f1
    have HL2 := Lib.hid f4
    have HW0 := Lib.hid (((Below.refl w.heap.size w).alloc (Nat.le_refl _) (.cells #[.int .i64 op, .int .i64 n, .string nm, .slice a len cap] 46)).alloc (by simp) (.cells #[.int .i64 op2, .int .i64 n2, .string nm2, .slice a2 len2 cap2] 46))
    clear ih hr hR hR2 hS hS2 i1 i2 i12 i22 f1 f4
    by_cases ho : op = op2
    case neg =>
      have F := Lib.hid (HF.out false (eqv_no (fun h => ho (by injection h))))
      have t1 : (op != op2) = true := by simp [ho]
      clear ho
      go_enter Try.func27, Try.ntmps27
      go_wp2
      go_ret
      exact ⟨F.out, HW0.out⟩
    by_cases hn : n = n2
    case neg =>
      have F := Lib.hid (HF.out false (eqv_no (fun h => hn (by injection h))))
      have t1 : (n != n2) = true := by simp [hn]
      subst ho
      clear hn
      go_enter Try.func27, Try.ntmps27
      go_wp2
      go_ret
      exact ⟨F.out, HW0.out⟩
    by_cases hm : nm = nm2
    case neg =>
      have F := Lib.hid (HF.out false (eqv_no (fun h => hm (by injection h))))
      have t1 : (nm.toList == nm2.toList) = false := tl_ne hm
      have t2 : (nm.toList != nm2.toList) = true := by rw [bne, t1]; rfl
      subst ho hn
      clear hm
      go_enter Try.func27, Try.ntmps27
      go_wp2
      go_ret
      exact ⟨F.out, HW0.out⟩
    have E := Lib.hid (HE.out ho hn hm)
    subst ho hn hm
    have F : Hid (∀ b, eqv args args2 = b → Ending.returned (.bool b) = .returned (.bool (eqv (Ex.mk op n nm args) (Ex.mk op n nm args2)))) := fun b hb => by rw [E.out, hb]
    clear HE HF E
    generalize eqv (Ex.mk op n nm args) (Ex.mk op n nm args2) = R at *
    by_cases hl : len = len2
    case neg =>
      have F := Lib.hid (F.out false (eqv_no (fun h => hl (by rw [← HL.out, ← HL2.out, h]))))
      have t1 : ((len : Int) != (len2 : Int)) = true := by rw [bne_iff_ne]; omega
      clear hl
      go_enter Try.func27, Try.ntmps27
      go_wp2
      go_ret
      exact ⟨F.out, HW0.out⟩
    subst hl
    have BX := Lib.hid ((Mem.Blk.new w 46 #[.int .i64 op, .int .i64 n, .string nm, .slice a len cap]).alloc (.cells #[.int .i64 op, .int .i64 n, .string nm, .slice a2 len cap2] 46))
    have BY := Lib.hid (Mem.Blk.new (w.alloc (.cells #[.int .i64 op, .int .i64 n, .string nm, .slice a len cap] 46)) 46 #[.int .i64 op, .int .i64 n, .string nm, .slice a2 len cap2])
    rw [show (w.alloc (.cells #[.int .i64 op, .int .i64 n, .string nm, .slice a len cap] 46)).heap.size = w.heap.size + 1 by simp] at BY
    go_enter Try.func27, Try.ntmps27
    go_wp2_with fail
    go_loopw [5] (fun i wr => ∃ k : Nat, i = .int .i64 (k : Nat) ∧ k ≤ len ∧ Hid (Below w.heap.size w wr) ∧ Hid (Mem.Blk wr w.heap.size 46 #[.int .i64 op, .int .i64 n, .string nm, .slice a len cap]) ∧ Hid (Mem.Blk wr (w.heap.size + 1) 46 #[.int .i64 op, .int .i64 n, .string nm, .slice a2 len cap2]) ∧ Hid (∀ (j : Nat) x, j < k → args[j]? = some x → args2[j]? = some x)) (fun i _ => len - (intOf i).toNat)
    case atStart => exact ⟨0, rfl, Nat.zero_le _, HW0.out, BX.out, BY.out, fun j y hj => absurd hj (Nat.not_lt_zero _)⟩
    case round =>
      clear BX BY HW0
      obtain ⟨k, rfl, hk, HW, HX, HY, HN⟩ := hrel
      have x3 : wr.cell? ⟨w.heap.size, 3, none⟩ = some (.slice a len cap) := HX.out.cell 3
      have y3 : wr.cell? ⟨w.heap.size + 1, 3, none⟩ = some (.slice a2 len cap2) := HY.out.cell 3
      by_cases hlt : k < len
      · obtain ⟨b, o, op', n', nm', args', a', len', cap', rfl, hb, hbx, hle, j1, j2, j3, hS', g0, g1, g2, g3⟩ := (HS.out.kept (Kept.of_below HW.out [])).at k hlt
        obtain ⟨b4, o4, op4, n4, nm4, args4, a4, len4, cap4, rfl, hb4, hbx4, hle4, j41, j42, j43, hS4, g40, g41, g42, g43⟩ := (HS2.out.kept (Kept.of_below HW.out [])).at k hlt
        have HC := Lib.hid (fun W hW => HI.out k _ (Ex.mk op4 n4 nm4 args4) _ [.int .i64 op4, .int .i64 n4, .string nm4, .slice a4 len4 cap4] W hle (RepE.mk' j1 j2 j3 (hS'.kept hW)) (RepE.mk' j41 j42 j43 (hS4.kept hW)))
        have HK : Hid (Kept [] wr wr.drew) := ⟨Nat.le_refl _, fun _ _ _ => rfl⟩
        have HWD := Lib.hid HW.out.drew
        have HXD := Lib.hid HX.out.drew
        have HYD := Lib.hid HY.out.drew
        have HLE := Lib.hid hle
        have HLE4 := Lib.hid hle4
        have hidx : (0 : Int) ≤ (k : Int) := by omega
        have hidx2 : (k : Int) < (len : Int) := by omega
        clear hle hle4 hS' hS4
        generalize Ex.mk op' n' nm' args' = e' at *
        generalize Ex.mk op4 n4 nm4 args4 = e4 at *
        by_cases hp : e' = e4
        · have HN2 : Hid (∀ (j : Nat) x, j < k + 1 → args[j]? = some x → args2[j]? = some x) := by
            intro j y hj hy
            rcases Nat.lt_or_ge j k with h | h
            · exact HN.out j y h hy
            · obtain rfl : j = k := by omega
              rw [HLE.out] at hy; injection hy with hy; subst hy; rw [HLE4.out, hp]
          rw [eqv_yes hp] at HC
          clear hp
          go_wp2_with fail
          go_still_tail 10, (by kernel_rfl)
          change wpList _ _ _ _ _ wr.drew
          go_wp2_with fail
          refine (HC.out _ HK.out).mono ?_; rintro r w1 ⟨rfl, b1⟩
          go_wp2
          go_roundw
          case rel => exact ⟨k + 1, by go_num, by omega, HWD.out.trans (b1.mono HWD.out.size), HXD.out.below b1, HYD.out.below b1, HN2⟩
          case measure => simp [intOf]; omega
        · have F := Lib.hid (F.out false (eqv_no (list_ne HLE.out HLE4.out hp)))
          rw [eqv_no hp] at HC
          clear hp
          go_wp2_with fail
          go_still_tail 10, (by kernel_rfl)
          change wpList _ _ _ _ _ wr.drew
          go_wp2_with fail
          refine (HC.out _ HK.out).mono ?_; rintro r w1 ⟨rfl, b1⟩
          go_wp2
          go_ret
          exact ⟨F.out, HWD.out.trans (b1.mono HWD.out.size)⟩
      · have F := Lib.hid (F.out true (eqv_yes (list_eq_of (by rw [HL.out, HL2.out]) (fun j x hj hx => HN.out j x (by rw [HL.out] at hj; omega) hx))))
        go_wp2
        go_ret
        exact ⟨F.out, HW.out⟩
end Go.Proofs.Ytppnmeobnilojaa

/- Same of the document's answer. -/
namespace Go.Proofs.Ytppnmeobnilojaa
set_option linter.unusedVariables false
set_option linter.unusedSimpArgs false
open Go.RowKit
set_option maxRecDepth 100000 in
set_option maxHeartbeats 4000000 in
theorem rsame_any : ∀ (r : Nat) (e : Te), e.rk ≤ r → ∀ (e2 : Te) (cs cs2 : List Value) (w : World), RepT w [] e cs → RepT w [] e2 cs2 →
    Calls Try.prog 29 #[.agg cs.toArray, .agg cs2.toArray] w fun x w' => x = .returned (.bool (eqv e e2)) ∧ Below w.heap.size w w' := by
  intro r
  induction r with
  | zero => intro e h; have := e.rk_pos'; omega
  | succ r ih =>
    intro e hr e2 cs cs2 w hR hR2
    obtain ⟨op, nm, ex, te, a, len, cap, b, ben, bap, rfl, rfl, i1, i3, hS, hB⟩ := hR.inv
    obtain ⟨op2, nm2, ex2, te2, a2, len2, cap2, b2, ben2, bap2, rfl, rfl, i12, i32, hS2, hB2⟩ := hR2.inv
    have HI : Hid (∀ (k : Nat) e1 e1' cs1 cs1' W, te[k]? = some e1 → RepT W [] e1 cs1 → RepT W [] e1' cs1' → Calls Try.prog 29 #[.agg cs1.toArray, .agg cs1'.toArray] W fun x w' => x = .returned (.bool (eqv e1 e1')) ∧ Below W.heap.size W w') := by
      intro k e1 e1' cs1 cs1' W hk hR1 hR1'
      exact ih e1 (by have := Te.rk_lt (op := op) (nm := nm) (x := ex) hk; omega) e1' cs1 cs1' W hR1 hR1'
    have HF : Hid (∀ x, eqv (Te.mk op nm ex te) (Te.mk op2 nm2 ex2 te2) = x → Ending.returned (.bool x) = .returned (.bool (eqv (Te.mk op nm ex te) (Te.mk op2 nm2 ex2 te2)))) := fun x h => by rw [h]
    have HS := Lib.hid hS
    have HS2 := Lib.hid hS2
    have HB := Lib.hid hB
    have HB2 := Lib.hid hB2
    obtain ⟨f1, f2, f3⟩ := hS.facts
    obtain ⟨f4, f5, f6⟩ := hS2.facts
    obtain ⟨f1', f2', f3'⟩ := hB.facts
    obtain ⟨f4', f5', f6'⟩ := hB2.facts
    have HL := Lib.hid f1
    have HL2 := Lib.hid f4
    have HM := Lib.hid f1'
    have HM2 := Lib.hid f4'
    have HW0 := Lib.hid (((Below.refl w.heap.size w).alloc (Nat.le_refl _) (.cells #[.int .i64 op, .string nm, .slice a len cap, .slice b ben bap] 35)).alloc (by simp) (.cells #[.int .i64 op2, .string nm2, .slice a2 len2 cap2, .slice b2 ben2 bap2] 35))
    have BX := Lib.hid ((Mem.Blk.new w 35 #[.int .i64 op, .string nm, .slice a len cap, .slice b ben bap]).alloc (.cells #[.int .i64 op2, .string nm2, .slice a2 len2 cap2, .slice b2 ben2 bap2] 35))
    have BY := Lib.hid (Mem.Blk.new (w.alloc (.cells #[.int .i64 op, .string nm, .slice a len cap, .slice b ben bap] 35)) 35 #[.int .i64 op2, .string nm2, .slice a2 len2 cap2, .slice b2 ben2 bap2])
    rw [show (w.alloc (.cells #[.int .i64 op, .string nm, .slice a len cap, .slice b ben bap] 35)).heap.size = w.heap.size + 1 by simp] at BY
    clear ih hr hR hR2 hS hS2 hB hB2 i1 i12 f1 f4 f1' f4'
    by_cases ho : op = op2
    case neg =>
      have F := Lib.hid (HF.out false (eqv_no (fun h => ho (by injection h))))
      have t1 : (op != op2) = true := by simp [ho]
      clear ho
      go_enter Try.func29, Try.ntmps29
      go_wp2
      go_ret
      exact ⟨F.out, HW0.out⟩
    by_cases hm : nm = nm2
    case neg =>
      have F := Lib.hid (HF.out false (eqv_no (fun h => hm (by injection h))))
      have t1 : (nm.toList == nm2.toList) = false := tl_ne hm
      have t2 : (nm.toList != nm2.toList) = true := by rw [bne, t1]; rfl
      subst ho
      clear hm
      go_enter Try.func29, Try.ntmps29
      go_wp2
      go_ret
      exact ⟨F.out, HW0.out⟩
    subst ho hm
    have F : Hid (∀ x, (eqv ex ex2 && eqv te te2) = x → Ending.returned (.bool x) = .returned (.bool (eqv (Te.mk op nm ex te) (Te.mk op nm ex2 te2)))) := fun x hx => by rw [eqT, hx]
    clear HF
    generalize eqv (Te.mk op nm ex te) (Te.mk op nm ex2 te2) = R at *
    by_cases hl : len = len2
    case neg =>
      have F := Lib.hid (F.out false (by rw [eqv_no (fun h => hl (by rw [← HL.out, ← HL2.out, h]))]; rfl))
      have t1 : ((len : Int) != (len2 : Int)) = true := by rw [bne_iff_ne]; omega
      clear hl
      go_enter Try.func29, Try.ntmps29
      go_wp2
      go_ret
      exact ⟨F.out, HW0.out⟩
    by_cases hl2 : ben = ben2
    case neg =>
      have F := Lib.hid (F.out false (by rw [eqv_no (a := te) (fun h => hl2 (by rw [← HM.out, ← HM2.out, h]))]; simp))
      have t1 : ((ben : Int) != (ben2 : Int)) = true := by rw [bne_iff_ne]; omega
      subst hl
      clear hl2
      go_enter Try.func29, Try.ntmps29
      go_wp2
      go_ret
      exact ⟨F.out, HW0.out⟩
    subst hl hl2
    go_enter Try.func29, Try.ntmps29
    go_wp2_with fail
    go_loopw [5] (fun i wr => ∃ k : Nat, i = .int .i64 (k : Nat) ∧ k ≤ len ∧ Hid (Below w.heap.size w wr) ∧ Hid (Mem.Blk wr w.heap.size 35 #[.int .i64 op, .string nm, .slice a len cap, .slice b ben bap]) ∧ Hid (Mem.Blk wr (w.heap.size + 1) 35 #[.int .i64 op, .string nm, .slice a2 len cap2, .slice b2 ben bap2]) ∧ Hid (∀ (j : Nat) x, j < k → ex[j]? = some x → ex2[j]? = some x)) (fun i _ => len - (intOf i).toNat)
    case atStart => exact ⟨0, rfl, Nat.zero_le _, HW0.out, BX.out, BY.out, fun j y hj => absurd hj (Nat.not_lt_zero _)⟩
    case round =>
      clear BX BY HW0
      obtain ⟨k, rfl, hk, HW, HX, HY, HN⟩ := hrel
      have x2 : wr.cell? ⟨w.heap.size, 2, none⟩ = some (.slice a len cap) := HX.out.cell 2
      have y2 : wr.cell? ⟨w.heap.size + 1, 2, none⟩ = some (.slice a2 len cap2) := HY.out.cell 2
      by_cases hlt : k < len
      · obtain ⟨bb, o, op', n', nm', args', a', len', cap', rfl, hb, hbx, hle, j1, j2, j3, hS', g0, g1, g2, g3⟩ := (HS.out.kept (Kept.of_below HW.out [])).at k hlt
        obtain ⟨b4, o4, op4, n4, nm4, args4, a4, len4, cap4, rfl, hb4, hbx4, hle4, j41, j42, j43, hS4, g40, g41, g42, g43⟩ := (HS2.out.kept (Kept.of_below HW.out [])).at k hlt
        have HC := Lib.hid (fun W hW => rsameExpr_any (Ex.mk op' n' nm' args').rk (Ex.mk op' n' nm' args') (Nat.le_refl _) (Ex.mk op4 n4 nm4 args4) _ [.int .i64 op4, .int .i64 n4, .string nm4, .slice a4 len4 cap4] W (RepE.mk' j1 j2 j3 (hS'.kept hW)) (RepE.mk' j41 j42 j43 (hS4.kept hW)))
        have HK : Hid (Kept [] wr wr.drew) := ⟨Nat.le_refl _, fun _ _ _ => rfl⟩
        have HWD := Lib.hid HW.out.drew
        have HXD := Lib.hid HX.out.drew
        have HYD := Lib.hid HY.out.drew
        have HLE := Lib.hid hle
        have HLE4 := Lib.hid hle4
        have hidx : (0 : Int) ≤ (k : Int) := by omega
        have hidx2 : (k : Int) < (len : Int) := by omega
        clear hle hle4 hS' hS4
        generalize Ex.mk op' n' nm' args' = e' at *
        generalize Ex.mk op4 n4 nm4 args4 = e4 at *
        by_cases hp : e' = e4
        · have HN2 : Hid (∀ (j : Nat) x, j < k + 1 → ex[j]? = some x → ex2[j]? = some x) := by
            intro j y hj hy
            rcases Nat.lt_or_ge j k with h | h
            · exact HN.out j y h hy
            · obtain rfl : j = k := by omega
              rw [HLE.out] at hy; injection hy with hy; subst hy; rw [HLE4.out, hp]
          rw [eqv_yes hp] at HC
          clear hp
          go_wp2_with fail
          go_still_tail 10, (by kernel_rfl)
          change wpList _ _ _ _ _ wr.drew
          go_wp2_with fail
          refine (HC.out _ HK.out).mono ?_; rintro r w1 ⟨rfl, b1⟩
          go_wp2
          go_roundw
          case rel => exact ⟨k + 1, by go_num, by omega, HWD.out.trans (b1.mono HWD.out.size), HXD.out.below b1, HYD.out.below b1, HN2⟩
          case measure => simp [intOf]; omega
        · have F := Lib.hid (F.out false (by rw [eqv_no (list_ne HLE.out HLE4.out hp)]; rfl))
          rw [eqv_no hp] at HC
          clear hp
          go_wp2_with fail
          go_still_tail 10, (by kernel_rfl)
          change wpList _ _ _ _ _ wr.drew
          go_wp2_with fail
          refine (HC.out _ HK.out).mono ?_; rintro r w1 ⟨rfl, b1⟩
          go_wp2
          go_ret
          exact ⟨F.out, HWD.out.trans (b1.mono HWD.out.size)⟩
      · have F3 : Hid (∀ x, eqv te te2 = x → Ending.returned (.bool x) = .returned (.bool R)) := fun x hx => F.out x (by rw [eqv_yes (list_eq_of (by rw [HL.out, HL2.out]) (fun j x hj hx => HN.out j x (by rw [HL.out] at hj; omega) hx)), hx]; rfl)
        have W2 := HW
        have X2 := HX
        have Y2 := HY
        clear HW HX HY HN F HS HS2 HL HL2
        go_wp2_with fail
        clear x2 y2
        go_loopw [6] (fun i wr => ∃ k : Nat, i = .int .i64 (k : Nat) ∧ k ≤ ben ∧ Hid (Below w.heap.size w wr) ∧ Hid (Mem.Blk wr w.heap.size 35 #[.int .i64 op, .string nm, .slice a len cap, .slice b ben bap]) ∧ Hid (Mem.Blk wr (w.heap.size + 1) 35 #[.int .i64 op, .string nm, .slice a2 len cap2, .slice b2 ben bap2]) ∧ Hid (∀ (j : Nat) x, j < k → te[j]? = some x → te2[j]? = some x)) (fun i _ => ben - (intOf i).toNat)
        case atStart => exact ⟨0, rfl, Nat.zero_le _, W2.out, X2.out, Y2.out, fun j y hj => absurd hj (Nat.not_lt_zero _)⟩
        case round =>
          clear X2 Y2 W2
          obtain ⟨k2, rfl, hk2, HW, HX, HY, HN⟩ := hrel
          have x3 : wr.cell? ⟨w.heap.size, 3, none⟩ = some (.slice b ben bap) := HX.out.cell 3
          have y3 : wr.cell? ⟨w.heap.size + 1, 3, none⟩ = some (.slice b2 ben bap2) := HY.out.cell 3
          by_cases hlt2 : k2 < ben
          · obtain ⟨bb, o, op', nm', ex', te', a', len', cap', a3, len3, cap3, rfl, hb, hbx, hle, j1, j3, hS', hS3, g0, g1, g2, g3⟩ := (HB.out.kept (Kept.of_below HW.out [])).at k2 hlt2
            obtain ⟨b4, o4, op4, nm4, ex4, te4, a4, len4, cap4, a5, len5, cap5, rfl, hb4, hbx4, hle4, j41, j43, hS4, hS5, g40, g41, g42, g43⟩ := (HB2.out.kept (Kept.of_below HW.out [])).at k2 hlt2
            have HC := Lib.hid (fun W hW => HI.out k2 _ (Te.mk op4 nm4 ex4 te4) _ [.int .i64 op4, .string nm4, .slice a4 len4 cap4, .slice a5 len5 cap5] W hle (RepT.mk' j1 j3 (hS'.kept hW) (hS3.kept hW)) (RepT.mk' j41 j43 (hS4.kept hW) (hS5.kept hW)))
            have HK : Hid (Kept [] wr wr.drew) := ⟨Nat.le_refl _, fun _ _ _ => rfl⟩
            have HWD := Lib.hid HW.out.drew
            have HXD := Lib.hid HX.out.drew
            have HYD := Lib.hid HY.out.drew
            have HLE := Lib.hid hle
            have HLE4 := Lib.hid hle4
            have hidx : (0 : Int) ≤ (k2 : Int) := by omega
            have hidx2 : (k2 : Int) < (ben : Int) := by omega
            clear hle hle4 hS' hS4 hS3 hS5
            generalize Te.mk op' nm' ex' te' = e' at *
            generalize Te.mk op4 nm4 ex4 te4 = e4 at *
            by_cases hp : e' = e4
            · have HN2 : Hid (∀ (j : Nat) x, j < k2 + 1 → te[j]? = some x → te2[j]? = some x) := by
                intro j y hj hy
                rcases Nat.lt_or_ge j k2 with h | h
                · exact HN.out j y h hy
                · obtain rfl : j = k2 := by omega
                  rw [HLE.out] at hy; injection hy with hy; subst hy; rw [HLE4.out, hp]
              rw [eqv_yes hp] at HC
              clear hp
              go_wp2_with fail
              go_still_tail 10, (by kernel_rfl)
              change wpList _ _ _ _ _ wr.drew
              go_wp2_with fail
              refine (HC.out _ HK.out).mono ?_; rintro r w1 ⟨rfl, b1⟩
              go_wp2
              go_roundw
              case rel => exact ⟨k2 + 1, by go_num, by omega, HWD.out.trans (b1.mono HWD.out.size), HXD.out.below b1, HYD.out.below b1, HN2⟩
              case measure => simp [intOf]; omega
            · have F := Lib.hid (F3.out false (eqv_no (list_ne HLE.out HLE4.out hp)))
              rw [eqv_no hp] at HC
              clear hp
              go_wp2_with fail
              go_still_tail 10, (by kernel_rfl)
              change wpList _ _ _ _ _ wr.drew
              go_wp2_with fail
              refine (HC.out _ HK.out).mono ?_; rintro r w1 ⟨rfl, b1⟩
              go_wp2
              go_ret
              exact ⟨F.out, HWD.out.trans (b1.mono HWD.out.size)⟩
          · have F := Lib.hid (F3.out true (eqv_yes (list_eq_of (by rw [HM.out, HM2.out]) (fun j x hj hx => HN.out j x (by rw [HM.out] at hj; omega) hx))))
            go_wp2
            go_ret
            exact ⟨F.out, HW.out⟩
end Go.Proofs.Ytppnmeobnilojaa

/- The law's own example: plain. -/
namespace Go.Proofs.Ytppnmeobnilojaa
set_option linter.unusedVariables false
set_option linter.unusedSimpArgs false
open Go.RowKit
def cE (n : Int) : Ex := .mk 1 n ⟨#[]⟩ []
def mulE : Ex := .mk 7 0 ⟨#[]⟩ [cE 2, cE 3]
def subE : Ex := .mk 6 0 ⟨#[]⟩ [mulE, cE 10]
def zeroT : Te := .mk 1 ⟨#[]⟩ [] []
def badT : Te := .mk 7 ⟨#[]⟩ [cE 2] [zeroT]
theorem sub_built : bE subE = true := by kernel_rfl
theorem bad_built : bT badT = true := by kernel_rfl
theorem sub_right : rE subE = true := by
  have h : rE subE = (decide (subE.nd ≤ 200 ∧ subE.rk ≤ 16) && bE subE) := rfl
  rw [h, sub_built]
  decide
theorem bad_right : rT badT = true := by
  have h : rT badT = (decide (badT.nd ≤ 200 ∧ badT.rk ≤ 16) && bT badT) := rfl
  rw [h, bad_built]
  decide
theorem c_fold (n : Int) : foldE (cE n) = cE n := by unfold cE; rw [foldE_mk]; rfl
theorem mul_fold : foldE mulE = cE 6 := by
  unfold mulE
  rw [foldE_mk]
  simp only [List.map_cons, List.map_nil, c_fold]
  kernel_rfl
theorem sub_fold : foldX subE = .mk 20 0 ⟨#[]⟩ [cE 4] := by
  unfold foldX
  rw [if_pos sub_right]
  unfold subE
  rw [foldE_mk]
  simp only [List.map_cons, List.map_nil, c_fold, mul_fold]
  kernel_rfl
theorem bad_fit : fitC badT = 12 := by
  have h : fitC badT = if rT badT then (if fitT badT then 0 else 12) else 1 := rfl
  have h2 : fitT badT = false := by kernel_rfl
  rw [h, bad_right, h2]
  rfl
theorem bad_fault : (if rT badT then faultT badT else none) = some [0] := by
  rw [bad_right, if_pos rfl]
  kernel_rfl
end Go.Proofs.Ytppnmeobnilojaa

/- The law's own example, walked. -/
namespace Go.Proofs.Ytppnmeobnilojaa
set_option linter.unusedVariables false
set_option linter.unusedSimpArgs false
open Go.RowKit
theorem cE_rep {w : World} {X : List Nat} (n : Int) (h : I64 n) : RepE w X (cE n) [.int .i64 1, .int .i64 n, .string ⟨#[]⟩, .slice none 0 0] := RepE.mk' (by unfold I64; omega) h (by decide) (SlE.nil _ _)
theorem zero_rep {w : World} {X : List Nat} : RepT w X zeroT [.int .i64 1, .string ⟨#[]⟩, .slice none 0 0, .slice none 0 0] := RepT.mk' (by unfold I64; omega) (by decide) (SlE.nil _ _) (SlT.nil _ _)
set_option maxRecDepth 100000 in
set_option maxHeartbeats 2000000 in
theorem awake21_any (w : World) : Calls Try.prog 14 #[] w fun x w' => x = .returned (.bool true) ∧ Below w.heap.size w w' := by
  go_enter Try.func14, Try.ntmps14
  go_wp2_with fail
  have HS := Lib.hid (((Sep.nil w).new 46 #[.int .i64 1, .int .i64 2, .string ⟨#[]⟩, .slice none 0 0, .int .i64 1, .int .i64 3, .string ⟨#[]⟩, .slice none 0 0]).new 46 #[.int .i64 7, .int .i64 0, .string ⟨#[]⟩, .slice (some ⟨w.heap.size, 0, none⟩) 2 2, .int .i64 1, .int .i64 10, .string ⟨#[]⟩, .slice none 0 0])
  rw [show (w.alloc (.cells #[.int .i64 1, .int .i64 2, .string ⟨#[]⟩, .slice none 0 0, .int .i64 1, .int .i64 3, .string ⟨#[]⟩, .slice none 0 0] 46)).heap.size = w.heap.size + 1 by simp] at HS
  have HB := Lib.hid (((Below.refl w.heap.size w).alloc (Nat.le_refl _) (.cells #[.int .i64 1, .int .i64 2, .string ⟨#[]⟩, .slice none 0 0, .int .i64 1, .int .i64 3, .string ⟨#[]⟩, .slice none 0 0] 46)).alloc (by simp) (.cells #[.int .i64 7, .int .i64 0, .string ⟨#[]⟩, .slice (some ⟨w.heap.size, 0, none⟩) 2 2, .int .i64 1, .int .i64 10, .string ⟨#[]⟩, .slice none 0 0] 46))
  generalize (w.alloc (.cells #[.int .i64 1, .int .i64 2, .string ⟨#[]⟩, .slice none 0 0, .int .i64 1, .int .i64 3, .string ⟨#[]⟩, .slice none 0 0] 46)).alloc (.cells #[.int .i64 7, .int .i64 0, .string ⟨#[]⟩, .slice (some ⟨w.heap.size, 0, none⟩) 2 2, .int .i64 1, .int .i64 10, .string ⟨#[]⟩, .slice none 0 0] 46) = v at *
  have HTW : Hid (∀ W, Mem.Blk W w.heap.size 46 #[.int .i64 1, .int .i64 2, .string ⟨#[]⟩, .slice none 0 0, .int .i64 1, .int .i64 3, .string ⟨#[]⟩, .slice none 0 0] → SlR exK W [] [cE 2, cE 3] (some ⟨w.heap.size, 0, none⟩) 2 2) := fun W hW =>
    SlR.lit2 (K := exK) (c := [.int .i64 1, .int .i64 2, .string ⟨#[]⟩, .slice none 0 0]) (d := [.int .i64 1, .int .i64 3, .string ⟨#[]⟩, .slice none 0 0]) hW rfl (by simp) (cE_rep 2 (by unfold I64; omega)) (cE_rep 3 (by unfold I64; omega))
  have RM : RepE v [] mulE [.int .i64 7, .int .i64 0, .string ⟨#[]⟩, .slice (some ⟨w.heap.size, 0, none⟩) 2 2] := RepE.mk' (by unfold I64; omega) (by unfold I64; omega) (by decide) (HTW.out v (HS.out.blk 1 rfl)).slE
  have RS := Lib.hid (show RepE v [] subE [.int .i64 6, .int .i64 0, .string ⟨#[]⟩, .slice (some ⟨w.heap.size + 1, 0, none⟩) 2 2] from RepE.mk' (by unfold I64; omega) (by unfold I64; omega) (by decide)
    (SlR.lit2 (K := exK) (c := [.int .i64 7, .int .i64 0, .string ⟨#[]⟩, .slice (some ⟨w.heap.size, 0, none⟩) 2 2]) (d := [.int .i64 1, .int .i64 10, .string ⟨#[]⟩, .slice none 0 0]) (HS.out.blk 0 rfl) rfl (by simp) RM (cE_rep 10 (by unfold I64; omega))).slE)
  clear RM
  go_at_call 28
  (with_reducible refine (foldX_any subE [] _ v RS.out (fun b hb => absurd hb List.not_mem_nil) (by decide)).mono ?_)
  rintro x w1 ⟨⟨cs1, rfl, hR1⟩, b1⟩
  rw [sub_fold] at hR1
  have HB1 := Lib.hid (HB.out.trans (b1.mono HB.out.size))
  have B01 := Lib.hid ((HS.out.blk 1 rfl).below b1)
  have HR1 := Lib.hid hR1
  obtain ⟨o5, n5, m5, r5, a5, l5, p5, -, rfl, -, -, -, -⟩ := hR1.inv
  clear HS HB RS b1 hR1
  go_upto_region 4 with (fail)
  have HS2 := Lib.hid ((((Sep.nil w1).new 46 #[.int .i64 o5, .int .i64 n5, .string m5, .slice a5 l5 p5]).new 35 #[.int .i64 1, .string ⟨#[]⟩, .slice none 0 0, .slice none 0 0]).new 35 #[.int .i64 7, .string ⟨#[]⟩, .slice (some ⟨w.heap.size, 0, none⟩) 1 2, .slice (some ⟨w1.heap.size + 1, 0, none⟩) 1 1])
  rw [show (w1.alloc (.cells #[.int .i64 o5, .int .i64 n5, .string m5, .slice a5 l5 p5] 46)).heap.size = w1.heap.size + 1 by simp, show ((w1.alloc (.cells #[.int .i64 o5, .int .i64 n5, .string m5, .slice a5 l5 p5] 46)).alloc (.cells #[.int .i64 1, .string ⟨#[]⟩, .slice none 0 0, .slice none 0 0] 35)).heap.size = w1.heap.size + 1 + 1 by simp] at HS2
  have hb3 := (((Below.refl w1.heap.size w1).alloc (Nat.le_refl _) (.cells #[.int .i64 o5, .int .i64 n5, .string m5, .slice a5 l5 p5] 46)).alloc (by simp) (.cells #[.int .i64 1, .string ⟨#[]⟩, .slice none 0 0, .slice none 0 0] 35)).alloc (by simp; omega) (.cells #[.int .i64 7, .string ⟨#[]⟩, .slice (some ⟨w.heap.size, 0, none⟩) 1 2, .slice (some ⟨w1.heap.size + 1, 0, none⟩) 1 1] 35)
  have HB2 := Lib.hid (HB1.out.trans (hb3.mono HB1.out.size))
  have B02 := Lib.hid (B01.out.below hb3)
  have HR2 := Lib.hid (HR1.out.kept (Kept.of_below hb3 []))
  clear hb3 HB1 B01 HR1
  generalize (((w1.alloc (.cells #[.int .i64 o5, .int .i64 n5, .string m5, .slice a5 l5 p5] 46)).alloc (.cells #[.int .i64 1, .string ⟨#[]⟩, .slice none 0 0, .slice none 0 0] 35)).alloc (.cells #[.int .i64 7, .string ⟨#[]⟩, .slice (some ⟨w.heap.size, 0, none⟩) 1 2, .slice (some ⟨w1.heap.size + 1, 0, none⟩) 1 1] 35)) = v2 at *
  generalize w1.heap.size = z at *
  have RB := Lib.hid (show RepT v2 [] badT [.int .i64 7, .string ⟨#[]⟩, .slice (some ⟨w.heap.size, 0, none⟩) 1 2, .slice (some ⟨z + 1, 0, none⟩) 1 1] from RepT.mk' (by unfold I64; omega) (by decide) ((HTW.out v2 B02.out).take 1 (by omega)).slE (SlR.lit1 (K := teK) (c := [.int .i64 1, .string ⟨#[]⟩, .slice none 0 0, .slice none 0 0]) (HS2.out.blk 1 rfl) (by simp) zero_rep).slT)
  obtain ⟨c0, c1, c2, c3, -, -, -, -⟩ := blk4 (HS2.out.blk 0 rfl)
  go_wp2_with fail
  go_at_call 17
  (with_reducible refine (faultX_any badT _ v2 RB.out (by decide)).mono ?_)
  rintro x w3 ⟨hP, b3⟩
  rw [bad_fault] at hP
  obtain ⟨ap, pc, rfl, hSP, -⟩ := hP
  have HSP := Lib.hid hSP
  have HB3 := Lib.hid (HB2.out.trans (b3.mono HB2.out.size))
  have HS3 := Lib.hid (HS2.out.below b3)
  have HR3 := Lib.hid (HR2.out.kept (Kept.of_below b3 []))
  have RB3 := Lib.hid (RB.out.kept (Kept.of_below b3 []))
  clear hSP b3 HB2 HS2 HR2 RB B02 HTW c0 c1 c2 c3
  obtain ⟨c0, c1, c2, c3, -, -, -, -⟩ := blk4 (HS3.out.blk 0 rfl)
  obtain ⟨f0, f1, f2, f3, -, -, -, -⟩ := blk4 (HS3.out.blk 2 rfl)
  go_wp2_with fail
  have hb4 := (Below.refl w3.heap.size w3).alloc (Nat.le_refl _) (.cells #[.int .i64 1, .int .i64 4, .string ⟨#[]⟩, .slice none 0 0] 46)
  have hL := SlR.lit1 (K := exK) (X := []) (c := [.int .i64 1, .int .i64 4, .string ⟨#[]⟩, .slice none 0 0]) (Mem.Blk.new w3 46 #[.int .i64 1, .int .i64 4, .string ⟨#[]⟩, .slice none 0 0]) (by simp) (cE_rep 4 (by unfold I64; omega))
  have HB4 := Lib.hid (HB3.out.trans (hb4.mono HB3.out.size))
  have HS4 := Lib.hid (HS3.out.below hb4)
  have HR4 := Lib.hid (HR3.out.kept (Kept.of_below hb4 []))
  have RB4 := Lib.hid (RB3.out.kept (Kept.of_below hb4 []))
  have HSP4 := Lib.hid (HSP.out.kept (Kept.of_below hb4 []))
  have RL := Lib.hid (show RepE (w3.alloc (.cells #[.int .i64 1, .int .i64 4, .string ⟨#[]⟩, .slice none 0 0] 46)) [] (.mk 20 0 ⟨#[]⟩ [cE 4]) [.int .i64 20, .int .i64 0, .string ⟨#[]⟩, .slice (some ⟨w3.heap.size, 0, none⟩) 1 1] from RepE.mk' (by unfold I64; omega) (by unfold I64; omega) (by decide) hL.slE)
  clear hb4 hL HB3 HS3 HR3 RB3 HSP c0 c1 c2 c3 f0 f1 f2 f3
  generalize w3.alloc (.cells #[.int .i64 1, .int .i64 4, .string ⟨#[]⟩, .slice none 0 0] 46) = v4 at *
  go_at_call 27
  (with_reducible refine (rsameExpr_any _ _ (Nat.le_refl _) _ _ _ v4 HR4.out RL.out).mono ?_)
  rintro x w5 ⟨rfl, b5⟩
  rw [eqv_yes rfl]
  have HB5 := Lib.hid (HB4.out.trans (b5.mono HB4.out.size))
  have HS5 := Lib.hid (HS4.out.below b5)
  have RB5 := Lib.hid (RB4.out.kept (Kept.of_below b5 []))
  have HSP5 := Lib.hid (HSP4.out.kept (Kept.of_below b5 []))
  clear b5 HB4 HS4 HR4 RB4 RL HSP4
  obtain ⟨c0, c1, c2, c3, -, -, -, -⟩ := blk4 (HS5.out.blk 0 rfl)
  go_wp2_with fail
  go_at_call 16
  (with_reducible refine (fitsX_any badT _ w5 RB5.out (by decide)).mono ?_)
  rintro x w6 ⟨rfl, b6⟩
  rw [bad_fit]
  have HB6 := Lib.hid (HB5.out.trans (b6.mono HB5.out.size))
  obtain ⟨pb, po, px, rfl, hpx, -, hpc⟩ := int_at (HSP5.out.kept (Kept.of_below b6 [])) 0 (by decide)
  obtain rfl : (0 : Int) = px := by simpa [pth] using hpx
  have hpc' : w6.cell? ⟨pb, po, none⟩ = some (.int .i64 0) := hpc
  clear b6 HB5 HS5 RB5 HSP5 c0 c1 c2 c3 hpc hpx
  go_wp2_with fail
  go_ret
  exact ⟨rfl, HB6.out⟩
end Go.Proofs.Ytppnmeobnilojaa
