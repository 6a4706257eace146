/- A part of the proof: Fts, LiS, SizeN, LiR, LiA, one behind another. -/
import Derived.Test.YtmiinmndbkdjbaaMAA
import Derived.Test.YtmiinmndbkdjbaaMAB
import Derived.Test.YtmiinmndbkdjbaaMAC
import Derived.Test.YtmiinmndbkdjbaaMAD
import Derived.Test.YtmiinmndbkdjbaaMAE
import Derived.Test.YtmiinmndbkdjbaaMAF
import Derived.Test.YtmiinmndbkdjbaaMAG
import Derived.Test.YtmiinmndbkdjbaaMAH
import Derived.Test.YtmiinmndbkdjbaaMAI
import Derived.Test.YtmiinmndbkdjbaaMAJ
import Derived.Test.YtmiinmndbkdjbaaMAK
import Derived.Test.YtmiinmndbkdjbaaMAL
/- The contracts of check.needs, fits, Fits; condition: the term is built as it must be. -/
namespace Go.Proofs.Ytmiinmndbkdjbaa
set_option linter.unusedVariables false
set_option linter.unusedSimpArgs false
open Go.RowKit
theorem needs_any (op : Int) (v1 v2 v3 : Value) (w : World) : Calls Try.prog 58 #[.agg #[.int .i64 op, v1, v2, v3]] w fun e w' => e = .returned (.int .i64 (needT op)) ∧ Below w.heap.size w w' := by
  have HN : Hid (needT op = if op = 6 then 1 else 2) := rfl
  by_cases h6 : op = 6
  · subst h6
    rw [show needT 6 = 1 from rfl]
    clear HN
    go_enter Try.func58, Try.ntmps58
    go_wp2_with fail
    go_ret
    exact ⟨rfl, (Below.refl _ _).alloc (Nat.le_refl _) _⟩
  · rw [HN.out, if_neg h6]
    have h6' : (op == 6) = false := beq_eq_false_iff_ne.2 h6
    clear HN
    go_enter Try.func58, Try.ntmps58
    go_wp2_with fail
    go_ret
    exact ⟨rfl, (Below.refl _ _).alloc (Nat.le_refl _) _⟩
theorem fitT_noX {op : Int} {nm : ByteArray} {x : List Ex} {l : List Te} {j : Nat} {c : Ex} (h : x[j]? = some c) (hne : kE c ≠ needT op) : fitT (.mk op nm x l) = false := by
  rw [fitT]
  have : (x.all fun e => decide (kE e = needT op)) = false := by
    rw [List.all_eq_false]; exact ⟨c, List.mem_of_getElem? h, by simpa using hne⟩
  rw [this]; rfl
theorem fitT_noT {op : Int} {nm : ByteArray} {x : List Ex} {l : List Te} {j : Nat} {c : Te} (h : l[j]? = some c) (hne : fitT c = false) : fitT (.mk op nm x l) = false := by
  rw [fitT, fitT_go]
  have : l.all fitT = false := by
    rw [List.all_eq_false]; exact ⟨c, List.mem_of_getElem? h, by simp [hne]⟩
  rw [this, Bool.and_false]
theorem fitT_yes {op : Int} {nm : ByteArray} {x : List Ex} {l : List Te} (h1 : ∀ (j : Nat) c, x[j]? = some c → kE c = needT op) (h2 : ∀ (j : Nat) c, l[j]? = some c → fitT c = true) : fitT (.mk op nm x l) = true := by
  rw [fitT, fitT_go, Bool.and_eq_true, List.all_eq_true, List.all_eq_true]
  constructor
  · intro c hc
    obtain ⟨j, hj⟩ := List.getElem?_of_mem hc
    simpa using h1 j c hj
  · intro c hc
    obtain ⟨j, hj⟩ := List.getElem?_of_mem hc
    exact h2 j c hj
set_option maxRecDepth 100000 in
set_option maxHeartbeats 4000000 in
theorem fits_any : ∀ (r : Nat) (e : Te), e.rk ≤ r → bT e = true → ∀ (cs : List Value) (w : World), RepT w [] e cs →
    Calls Try.prog 39 #[.agg cs.toArray] w fun x w' => x = .returned (.bool (fitT e)) ∧ Below w.heap.size w w' := by
  intro r
  induction r with
  | zero => intro e h; have := e.rk_pos; omega
  | succ r ih =>
    intro e hr hb cs w hR
    obtain ⟨op, nm, exprs, terms, a, len, cap, a2, len2, cap2, rfl, rfl, i1, i3, hS, hS2⟩ := hR.inv
    obtain ⟨-, -, -, g4, g5⟩ := bT_inv hb
    obtain ⟨f1, f2, f3⟩ := hS.facts
    obtain ⟨f4, f5, f6⟩ := hS2.facts
    have HI : Hid (∀ (k : Nat) e1, terms[k]? = some e1 → ∀ cs1 W, RepT W [] e1 cs1 → Calls Try.prog 39 #[.agg cs1.toArray] W fun x w' => x = .returned (.bool (fitT e1)) ∧ Below W.heap.size W w') := by
      intro k e1 hk cs1 W hR1
      exact ih e1 (by have := Te.rk_lt (op := op) (nm := nm) (x := exprs) hk; omega) (g5 e1 (List.mem_of_getElem? hk)) cs1 W hR1
    have HK : Hid (∀ (k : Nat) e1, exprs[k]? = some e1 → ∀ cs1 W, RepE W [] e1 cs1 → Calls Try.prog 45 #[.agg cs1.toArray] W fun x w' => x = .returned (.int .i64 (kE e1)) ∧ Below W.heap.size W w') := by
      intro k e1 hk cs1 W hR1
      exact kind_any e1.rk e1 (Nat.le_refl _) (g4 e1 (List.mem_of_getElem? hk)) cs1 W hR1
    have HNX := Lib.hid (fun (j : Nat) c (h : exprs[j]? = some c) (hne : kE c ≠ needT op) => fitT_noX (nm := nm) (l := terms) h hne)
    have HNT := Lib.hid (fun (j : Nat) c (h : terms[j]? = some c) (hne : fitT c = false) => fitT_noT (op := op) (nm := nm) (x := exprs) h hne)
    have HY := Lib.hid (fun (h1 : ∀ (j : Nat) c, exprs[j]? = some c → kE c = needT op) (h2 : ∀ (j : Nat) c, terms[j]? = some c → fitT c = true) => fitT_yes (nm := nm) h1 h2)
    have HN := Lib.hid (fun W => needs_any op (.string nm) (.slice a len cap) (.slice a2 len2 cap2) W)
    have HB0 := Lib.hid ((Below.refl w.heap.size w).alloc (Nat.le_refl _) (.cells #[.int .i64 op, .string nm, .slice a len cap, .slice a2 len2 cap2] 32))
    have BX := Lib.hid (Mem.Blk.new w 32 #[.int .i64 op, .string nm, .slice a len cap, .slice a2 len2 cap2])
    have HSS := Lib.hid (hS.kept (Kept.of_below HB0.out []))
    have HST := Lib.hid (hS2.kept (Kept.of_below HB0.out []))
    have HL := Lib.hid f1
    have HL2 := Lib.hid f4
    clear ih hr hR hS hS2 i1 i3 f1 f4 g4 g5 hb
    generalize fitT (.mk op nm exprs terms) = R at *
    generalize needT op = nd at *
    go_enter Try.func39, Try.ntmps39
    go_upto_region 1 with (fail)
    generalize w.alloc (.cells #[.int .i64 op, .string nm, .slice a len cap, .slice a2 len2 cap2] 32) = v at *
    obtain ⟨c0, c1, c2, c3, -, -, -, -⟩ := blk4 BX.out
    go_wp2_with fail
    go_loopw [10] (fun i wr => ∃ k : Nat, i = .int .i64 (k : Nat) ∧ k ≤ len ∧ Hid (Below v.heap.size v wr) ∧ Hid (∀ (j : Nat) x, j < k → exprs[j]? = some x → kE x = nd)) (fun i _ => len - (intOf i).toNat)
    case atStart => exact ⟨0, rfl, Nat.zero_le _, Below.refl _ _, fun j x h => by omega⟩
    case round =>
      obtain ⟨k, rfl, hk, HB, HP⟩ := hrel
      have t0 := cell_up c0 HB.out
      have t1 := cell_up c1 HB.out
      have t2 := cell_up c2 HB.out
      have t3 := cell_up c3 HB.out
      clear c0 c1 c2 c3
      by_cases hlt : k < len
      · obtain ⟨b, o, cop, cn, cnm, cargs, ca, clen, ccap, rfl, -, -, hxe, j1, j2, j3, hSc, v0, v1, v2, v3⟩ := (HSS.out.kept (Kept.of_below HB.out [])).at k hlt
        have j1' : (k : Int) < (len : Int) := by omega
        have j0' : (0 : Int) ≤ (k : Int) := by omega
        have HXE := Lib.hid hxe
        have HSC := Lib.hid (RepE.mk' j1 j2 j3 hSc)
        clear hxe j1 j2 j3 hSc
        go_upto_region 4 with (fail)
        have hfa := (Below.refl wr.heap.size wr).alloc (Nat.le_refl _) (.cells #[.int .i64 cop, .int .i64 cn, .string cnm, .slice ca clen ccap] 53)
        have BV := Lib.hid (Mem.Blk.new wr 53 #[.int .i64 cop, .int .i64 cn, .string cnm, .slice ca clen ccap])
        have HV := Lib.hid (HB.out.trans (hfa.mono HB.out.size))
        have HC := Lib.hid (fun W (hW : Below wr.heap.size wr W) => HK.out k _ HXE.out _ _ (HSC.out.kept (Kept.of_below hW [])))
        have HFA := Lib.hid hfa
        have t0' := cell_up t0 hfa
        have t1' := cell_up t1 hfa
        have t2' := cell_up t2 hfa
        have t3' := cell_up t3 hfa
        clear hfa HB HSC v0 v1 v2 v3 t0 t1 t2 t3
        generalize wr.alloc (.cells #[.int .i64 cop, .int .i64 cn, .string cnm, .slice ca clen ccap] 53) = v4 at *
        obtain ⟨u0, u1, u2, u3, -, -, -, -⟩ := blk4 BV.out
        have HX2 : Hid (∀ x, exprs[k]? = some x → kE x = kE (Ex.mk cop cn cnm cargs)) := fun x hx => by rw [HXE.out] at hx; injection hx with hx; rw [hx]
        have HX3 : Hid (kE (Ex.mk cop cn cnm cargs) ≠ nd → R = false) := fun h => HNX.out k _ HXE.out h
        generalize kE (Ex.mk cop cn cnm cargs) = kc at *
        go_wp2_with fail
        refine wp_region_till (S := fun W => Below wr.heap.size wr W ∧ Below v4.heap.size v4 W ∧ (W.cell? ⟨wr.heap.size, 0, none⟩ = some (.int .i64 cop) ∧ W.cell? ⟨wr.heap.size, 1, none⟩ = some (.int .i64 cn) ∧ W.cell? ⟨wr.heap.size, 2, none⟩ = some (.string cnm) ∧ W.cell? ⟨wr.heap.size, 3, none⟩ = some (.slice ca clen ccap)) ∧
          W.cell? ⟨w.heap.size, 0, none⟩ = some (.int .i64 op) ∧ W.cell? ⟨w.heap.size, 1, none⟩ = some (.string nm) ∧ W.cell? ⟨w.heap.size, 2, none⟩ = some (.slice (some ⟨b, o, none⟩) len cap) ∧ W.cell? ⟨w.heap.size, 3, none⟩ = some (.slice a2 len2 cap2)) 4 (by kernel_rfl) ?_
        have D1 := HFA.out.drew
        have D2 := (Below.refl v4.heap.size v4).drew
        refine till_take (i := 0) (v := ?_) rfl (by kernel_rfl) (fun _ _ _ h => h) (Or.inl ⟨by rfl, ?_⟩) ⟨D1,D2,⟨u0,u1,u2,u3⟩,t0',t1',t2',t3'⟩ ?_
        rotate_left
        · intro W hS
          try dsimp only at hS
          go_split_ands
          go_simp
          try with_reducible rfl
        try simp only [Act.put, List.getElem_toArray, List.getElem_cons_zero, List.getElem_cons_succ, List.setIfInBounds_toArray, List.set_cons_zero, List.set_cons_succ]
        refine till_take (i := 2) (v := ?_) rfl (by kernel_rfl) (fun _ _ _ h => h) (Or.inl ⟨by rfl, ?_⟩) ⟨D1,D2,⟨u0,u1,u2,u3⟩,t0',t1',t2',t3'⟩ ?_
        rotate_left
        · intro W hS
          try dsimp only at hS
          go_split_ands
          go_simp
          try with_reducible rfl
        try simp only [Act.put, List.getElem_toArray, List.getElem_cons_zero, List.getElem_cons_succ, List.setIfInBounds_toArray, List.set_cons_zero, List.set_cons_succ]
        refine till_one (i := 1) (by kernel_rfl) rfl (fun K' hK => ?_)
        go_simp
        go_at_call 45
        (with_reducible refine (HC.out _ HFA.out.drew).mono ?_)
        rintro y w1 ⟨rfl, bb⟩
        have hb1 := HFA.out.drew.trans (bb.mono HFA.out.drew.size)
        have hb2 := ((Below.refl v4.heap.size v4).drew).trans (bb.mono ((Below.refl v4.heap.size v4).drew).size)
        refine hK _ _ ⟨hb1, hb2, ⟨cell_up (w := v4.drew) u0 bb, cell_up (w := v4.drew) u1 bb, cell_up (w := v4.drew) u2 bb, cell_up (w := v4.drew) u3 bb⟩, cell_up (w := v4.drew) t0' bb, cell_up (w := v4.drew) t1' bb, cell_up (w := v4.drew) t2' bb, cell_up (w := v4.drew) t3' bb⟩ ?_
        have HB2 := Lib.hid hb2
        clear hK K' bb hb1 hb2
        try simp only [Act.put, List.getElem_toArray, List.getElem_cons_zero, List.getElem_cons_succ, List.setIfInBounds_toArray, List.set_cons_zero, List.set_cons_succ]
        refine till_one (i := 3) (by kernel_rfl) rfl (fun K' hK => ?_)
        go_simp
        go_at_call 58
        (with_reducible refine (HN.out _).mono ?_)
        rintro y w2 ⟨rfl, bb⟩
        have hb3 := HB2.out.trans (bb.mono HB2.out.size)
        have hv3 := HV.out.trans (hb3.mono HV.out.size)
        refine hK _ _ ⟨HFA.out.trans (hb3.mono HFA.out.size), hb3, ⟨cell_up u0 hb3, cell_up u1 hb3, cell_up u2 hb3, cell_up u3 hb3⟩, cell_up t0' hb3, cell_up t1' hb3, cell_up t2' hb3, cell_up t3' hb3⟩ ?_
        have HV3 := Lib.hid hv3
        clear hK K' bb hb3 hv3 HB2 D1 D2
        try simp only [Act.put, List.getElem_toArray, List.getElem_cons_zero, List.getElem_cons_succ, List.setIfInBounds_toArray, List.set_cons_zero, List.set_cons_succ]
        refine till_last (by kernel_rfl) rfl (by kernel_rfl) (fun K' hK => ?_)
        go_simp
        refine hK _ _ ?_
        clear hK K'
        refine wpAny_done (by kernel_rfl) ?_ _
        clear HC HFA BV HV u0 u1 u2 u3 t0' t1' t2' t3'
        by_cases hkc : kc = nd
        · subst hkc
          have FIN : Hid (∀ (j : Nat) x, j < k + 1 → exprs[j]? = some x → kE x = kc) := fun j x hj hx => by
            rcases Nat.eq_or_lt_of_le (Nat.le_of_lt_succ hj) with rfl | h
            · exact HX2.out x hx
            · exact HP.out j x h hx
          clear HX2 HX3 HP HXE
          go_wp2_with fail
          go_roundw
          case rel => exact ⟨k + 1, by go_num, by omega, HV3.out, FIN.out⟩
          case measure => simp [intOf]; omega
        · obtain rfl := HX3.out hkc
          have hkc' : (kc == nd) = false := beq_eq_false_iff_ne.2 hkc
          have HF := Lib.hid (HB0.out.trans (HV3.out.mono HB0.out.size))
          clear HX2 HX3 HP HXE
          go_wp2_with fail
          go_ret
          exact ⟨rfl, HF.out⟩
      · have hk' : ¬ (k : Int) < (len : Int) := by omega
        have HPX : Hid (∀ (j : Nat) x, exprs[j]? = some x → kE x = nd) := fun j x hx => HP.out j x (by have h1 := (List.getElem?_eq_some_iff.1 hx).1; have h2 := HL.out; omega) hx
        clear HP HK HN HNX HL HSS
        go_wp2_with fail
        go_loopw [23] (fun i w2 => ∃ m : Nat, i = .int .i64 (m : Nat) ∧ m ≤ len2 ∧ Hid (Below v.heap.size v w2) ∧ Hid (∀ (j : Nat) x, j < m → terms[j]? = some x → fitT x = true)) (fun i _ => len2 - (intOf i).toNat)
        case atStart => exact ⟨0, rfl, Nat.zero_le _, HB.out, fun j x h => by omega⟩
        case round =>
          clear HB t0 t1 t2 t3
          obtain ⟨m, rfl, hm, HB, HP⟩ := hrel
          by_cases hlt2 : m < len2
          · obtain ⟨b, o, cop, cnm, cex, cte, ca, clen, ccap, ca2, clen2, ccap2, rfl, -, -, hxe, j1, j3, hSc, hSc2, v0, v1, v2, v3⟩ := (HST.out.kept (Kept.of_below HB.out [])).at m hlt2
            have j1' : (m : Int) < (len2 : Int) := by omega
            have j0' : (0 : Int) ≤ (m : Int) := by omega
            have HXE := Lib.hid hxe
            have HSC := Lib.hid (RepT.mk' j1 j3 hSc hSc2)
            clear hxe j1 j3 hSc hSc2
            go_upto_region 10 with (fail)
            have hfa := (Below.refl wr.heap.size wr).alloc (Nat.le_refl _) (.cells #[.int .i64 cop, .string cnm, .slice ca clen ccap, .slice ca2 clen2 ccap2] 32)
            have BV := Lib.hid (Mem.Blk.new wr 32 #[.int .i64 cop, .string cnm, .slice ca clen ccap, .slice ca2 clen2 ccap2])
            have HV := Lib.hid (HB.out.trans (hfa.mono HB.out.size))
            have HC := Lib.hid (HI.out m _ HXE.out _ _ (HSC.out.kept (Kept.of_below hfa [])))
            clear hfa HB HSC v0 v1 v2 v3
            generalize wr.alloc (.cells #[.int .i64 cop, .string cnm, .slice ca clen ccap, .slice ca2 clen2 ccap2] 32) = v4 at *
            obtain ⟨u0, u1, u2, u3, -, -, -, -⟩ := blk4 BV.out
            have HX2 : Hid (∀ x, terms[m]? = some x → fitT x = fitT (Te.mk cop cnm cex cte)) := fun x hx => by rw [HXE.out] at hx; injection hx with hx; rw [hx]
            have HX3 : Hid (fitT (Te.mk cop cnm cex cte) = false → R = false) := fun h => HNT.out m _ HXE.out h
            generalize fitT (Te.mk cop cnm cex cte) = kc at *
            cases kc
            · obtain rfl := HX3.out rfl
              go_wp2_with fail
              go_at_call 39
              (with_reducible refine HC.out.mono ?_)
              rintro y w3 ⟨rfl, bb⟩
              have HF := Lib.hid (HB0.out.trans ((HV.out.trans (bb.mono HV.out.size)).mono HB0.out.size))
              clear bb HC HV BV HX2 HX3 HP
              go_wp2_with fail
              go_ret
              exact ⟨rfl, HF.out⟩
            · have FIN : Hid (∀ (j : Nat) x, j < m + 1 → terms[j]? = some x → fitT x = true) := fun j x hj hx => by
                rcases Nat.eq_or_lt_of_le (Nat.le_of_lt_succ hj) with rfl | h
                · exact HX2.out x hx
                · exact HP.out j x h hx
              go_wp2_with fail
              go_at_call 39
              (with_reducible refine HC.out.mono ?_)
              rintro y w3 ⟨rfl, bb⟩
              have HF := Lib.hid (HV.out.trans (bb.mono HV.out.size))
              clear bb HC HV BV HX2 HX3 HP
              go_wp2_with fail
              go_roundw
              case rel => exact ⟨m + 1, by go_num, by omega, HF.out, FIN.out⟩
              case measure => simp [intOf]; omega
          · have hm' : ¬ (m : Int) < (len2 : Int) := by omega
            have hR := HY.out HPX.out (fun j x hx => HP.out j x (by have h1 := (List.getElem?_eq_some_iff.1 hx).1; have h2 := HL2.out; omega) hx)
            have HF := Lib.hid (HB0.out.trans (HB.out.mono HB0.out.size))
            clear HP HPX HY HNT
            subst hR
            go_wp2_with fail
            go_ret
            exact ⟨rfl, HF.out⟩
/-- What Fits answers. -/
def fitC (e : Te) : Int := if rT e then (if fitT e then 0 else 12) else 1
set_option maxRecDepth 100000 in
theorem fitsX_any (e : Te) (cs : List Value) (w : World) (hR : RepT w [] e cs) (hk : e.rk < 1000) :
    Calls Try.prog 21 #[.agg cs.toArray] w fun x w' => x = .returned (.int .i64 (fitC e)) ∧ Below w.heap.size w w' := by
  have HI : Hid (fitC e = if rT e then (if fitT e then 0 else 12) else 1) := rfl
  have HB := Lib.hid (show rT e = true → bT e = true from fun h => by unfold rT at h; rw [Bool.and_eq_true] at h; exact h.2)
  have HC := Lib.hid (fun W (hW : Below w.heap.size w W) => right_any e cs W (hR.kept (Kept.of_below hW [])) (by omega))
  have HK := Lib.hid (fun W (hW : Below w.heap.size w W) (hb : bT e = true) => fits_any e.rk e (Nat.le_refl _) hb cs W (hR.kept (Kept.of_below hW [])))
  obtain ⟨op, nm, exprs, terms, a, len, cap, a2, len2, cap2, rfl, rfl, i1, i3, hS, hS2⟩ := hR.inv
  have HB0 := Lib.hid ((Below.refl w.heap.size w).alloc (Nat.le_refl _) (.cells #[.int .i64 op, .string nm, .slice a len cap, .slice a2 len2 cap2] 32))
  have BX := Lib.hid (Mem.Blk.new w 32 #[.int .i64 op, .string nm, .slice a len cap, .slice a2 len2 cap2])
  clear i1 i3 hS hS2 hR hk
  generalize (Te.mk op nm exprs terms) = e at *
  cases hr : rT e with
  | true =>
    have hb := HB.out hr
    have HK := Lib.hid (fun W hW => HK.out W hW hb)
    rw [hr, if_pos rfl] at HI
    rw [hr] at HC
    rw [HI.out]
    clear hr hb HB HI
    cases hf : fitT e with
    | true =>
      rw [hf] at HK
      rw [if_pos rfl]
      clear hf
      go_enter Try.func21, Try.ntmps21
      go_upto_region 1 with (fail)
      generalize w.alloc (.cells #[.int .i64 op, .string nm, .slice a len cap, .slice a2 len2 cap2] 32) = v at *
      obtain ⟨c0, c1, c2, c3, -, -, -, -⟩ := blk4 BX.out
      go_wp2_with fail
      go_at_call 14
      (with_reducible refine (HC.out _ HB0.out).mono ?_)
      rintro y w1 ⟨rfl, b1⟩
      have HB1 := Lib.hid (HB0.out.trans (b1.mono HB0.out.size))
      have c0' := cell_up c0 b1
      have c1' := cell_up c1 b1
      have c2' := cell_up c2 b1
      have c3' := cell_up c3 b1
      clear c0 c1 c2 c3
      go_wp2_with fail
      go_at_call 39
      (with_reducible refine (HK.out _ HB1.out).mono ?_)
      rintro y w2 ⟨rfl, b2⟩
      have HB2 := Lib.hid (HB1.out.trans (b2.mono HB1.out.size))
      go_wp2_with fail
      go_ret
      exact ⟨rfl, HB2.out⟩
    | false =>
      rw [hf] at HK
      rw [if_neg (by decide)]
      clear hf
      go_enter Try.func21, Try.ntmps21
      go_upto_region 1 with (fail)
      generalize w.alloc (.cells #[.int .i64 op, .string nm, .slice a len cap, .slice a2 len2 cap2] 32) = v at *
      obtain ⟨c0, c1, c2, c3, -, -, -, -⟩ := blk4 BX.out
      go_wp2_with fail
      go_at_call 14
      (with_reducible refine (HC.out _ HB0.out).mono ?_)
      rintro y w1 ⟨rfl, b1⟩
      have HB1 := Lib.hid (HB0.out.trans (b1.mono HB0.out.size))
      have c0' := cell_up c0 b1
      have c1' := cell_up c1 b1
      have c2' := cell_up c2 b1
      have c3' := cell_up c3 b1
      clear c0 c1 c2 c3
      go_wp2_with fail
      go_at_call 39
      (with_reducible refine (HK.out _ HB1.out).mono ?_)
      rintro y w2 ⟨rfl, b2⟩
      have HB2 := Lib.hid (HB1.out.trans (b2.mono HB1.out.size))
      go_wp2_with fail
      go_ret
      exact ⟨rfl, HB2.out⟩
  | false =>
    rw [hr] at HC HI
    rw [if_neg (by decide)] at HI
    rw [HI.out]
    clear hr HB HI HK
    go_enter Try.func21, Try.ntmps21
    go_upto_region 1 with (fail)
    generalize w.alloc (.cells #[.int .i64 op, .string nm, .slice a len cap, .slice a2 len2 cap2] 32) = v at *
    obtain ⟨c0, c1, c2, c3, -, -, -, -⟩ := blk4 BX.out
    go_wp2_with fail
    go_at_call 14
    (with_reducible refine (HC.out _ HB0.out).mono ?_)
    rintro y w1 ⟨rfl, b1⟩
    have HB1 := Lib.hid (HB0.out.trans (b1.mono HB0.out.size))
    have c0' := cell_up c0 b1
    have c1' := cell_up c1 b1
    have c2' := cell_up c2 b1
    have c3' := cell_up c3 b1
    clear c0 c1 c2 c3
    go_wp2_with fail
    go_ret
    exact ⟨rfl, HB1.out⟩
end Go.Proofs.Ytmiinmndbkdjbaa

/- Parts that go on, step by step: plain. -/
namespace Go.Proofs.Ytmiinmndbkdjbaa
set_option linter.unusedVariables false
set_option linter.unusedSimpArgs false
open Go.RowKit
noncomputable def stepP (day : Int) (fx : List Fx) (s : RS) (p : Prt) : RS :=
  if endB day fx p.til = true ∨ (endS day fx p.til s).bad = true then endS day fx p.til s
  else if p.term.op = 6 ∨ p.term.op = 7 then waitW (acq day fx) (evalX day fx (x0 p.term)) p.term p.factor p.turned p.til (endS day fx p.til s)
  else { endS day fx p.til s with ps := (endS day fx p.til s).ps ++ [p] }
noncomputable def stepL (day : Int) (fx : List Fx) (l : List Prt) (s : RS) : RS := l.foldl (stepP day fx) s
def ndL : List Prt → Nat
  | [] => 0
  | p :: t => p.term.nd + ndL t
theorem ndL_append (a b : List Prt) : ndL (a ++ b) = ndL a + ndL b := by
  induction a with
  | nil => simp [ndL]
  | cons x t ih => rw [List.cons_append, ndL, ndL, ih]; omega
section
variable {day : Int} {fx : List Fx}
theorem endS_eq (l : List Ex) (s : RS) : endS day fx l s = ⟨s.ps, s.fs, s.bad || l.any fun e => decide ((evalX day fx e).K = 3)⟩ := by
  induction l generalizing s with
  | nil => cases s; simp [endS]
  | cons e t ih =>
    have h : endS day fx (e :: t) s = endS day fx t (orB s (evalX day fx e)) := rfl
    rw [h, ih, List.any_cons, ← Bool.or_assoc]
    rfl
theorem acq_good {t : Te} {f : Int} {tn : Bool} {un : List Ex} {s : RS} (h : (acq day fx t f tn un s).bad = false) : s.bad = false := by
  cases hs : s.bad with
  | false => rfl
  | true => rw [acq_bad hs, hs] at h; exact h
theorem endS_good {l : List Ex} {s : RS} (h : (endS day fx l s).bad = false) : s.bad = false ∧ (∀ e ∈ l, (evalX day fx e).K ≠ 3) ∧ endS day fx l s = s := by
  rw [endS_eq] at h ⊢
  change (s.bad || l.any fun e => decide ((evalX day fx e).K = 3)) = false at h
  rw [h]
  rw [Bool.or_eq_false_iff, List.any_eq_false] at h
  refine ⟨h.1, fun e he => by have := h.2 e he; simpa using this, ?_⟩
  rw [← h.1]
/-- A part that may be there, and may have come from a term of so many levels. -/
structure PrtOk (p : Prt) : Prop where
  op : p.term.op = 5 ∨ p.term.op = 6 ∨ p.term.op = 7 ∨ p.term.op = 9
  right : rT p.term = true
  fit : fitT p.term = true
  til : ∀ e ∈ p.til, kI e = 2
  len : p.til.length + p.term.rk ≤ 16
/-- A part of which nothing comes now. -/
structure Sat (day : Int) (fx : List Fx) (p : Prt) : Prop where
  til : ∀ e ∈ p.til, (evalX day fx e).K ≠ 3 ∧ (evalX day fx e).B = false
  x6 : p.term.op = 6 → (evalX day fx (x0 p.term)).K ≠ 3 ∧ (evalX day fx (x0 p.term)).K ≠ 1
  x7 : p.term.op = 7 → (evalX day fx (x0 p.term)).K ≠ 3 ∧ (evalX day fx (x0 p.term)).B = false
theorem rT_get {t : Te} (h : rT t = true) : t.nd ≤ 200 ∧ t.rk ≤ 16 ∧ bT t = true := by
  have e : rT t = (decide (t.nd ≤ 200 ∧ t.rk ≤ 16) && bT t) := rfl
  rw [e, Bool.and_eq_true, decide_eq_true_eq] at h
  exact ⟨h.1.1, h.1.2, h.2⟩
theorem rT_mk9 {t : Te} (h : bT t = true) (h1 : t.nd ≤ 200) (h2 : t.rk ≤ 16) : rT t = true := by
  have e : rT t = (decide (t.nd ≤ 200 ∧ t.rk ≤ 16) && bT t) := rfl
  rw [e, Bool.and_eq_true, decide_eq_true_eq]
  exact ⟨⟨h1, h2⟩, h⟩
theorem nd_mem {l : List Te} {u : Te} (h : u ∈ l) : u.nd ≤ Te.nd.go l := by
  induction l with
  | nil => cases h
  | cons x t ih =>
    simp only [Te.nd.go]
    rcases List.mem_cons.1 h with rfl | h
    · omega
    · have := ih h; omega
theorem rT_kid {t u : Te} (h : rT t = true) (hu : u ∈ t.terms) : rT u = true := by
  obtain ⟨h1, h2, h3⟩ := rT_get h
  have hr := rk_kid hu
  refine rT_mk9 (bT_kid h3 hu) ?_ (by omega)
  obtain ⟨op, nm, x, l⟩ := t
  have e : (Te.mk op nm x l).nd = 1 + Ex.nd.go x + Te.nd.go l := rfl
  have := nd_mem (l := l) hu
  omega
theorem fit_kid {t u : Te} (h : fitT t = true) (hu : u ∈ t.terms) : fitT u = true := by
  obtain ⟨op, nm, x, l⟩ := t
  rw [fitT, fitT_go, Bool.and_eq_true] at h
  exact List.all_eq_true.1 h.2 u hu
theorem kI_kid {t : Te} {e : Ex} (h : rT t = true) (hf : fitT t = true) (hm : e ∈ t.exprs) : kI e = needT t.op := by
  obtain ⟨h1, h2, h3⟩ := rT_get h
  have hr := rk_kidX hm
  obtain ⟨op, nm, x, l⟩ := t
  change e ∈ x at hm
  rw [fitT, Bool.and_eq_true] at hf
  have h4 := List.all_eq_true.1 hf.1 e hm
  rw [decide_eq_true_eq] at h4
  obtain ⟨-, -, -, hb, -⟩ := bT_inv h3
  have h5 : e.nd ≤ Ex.nd.go x := by
    clear h4 hb h3 hf h1 h h2 hr
    induction x with
    | nil => cases hm
    | cons y t ih =>
      simp only [Ex.nd.go]
      rcases List.mem_cons.1 hm with rfl | hm
      · omega
      · have := ih hm; omega
  have e1 : (Te.mk op nm x l).nd = 1 + Ex.nd.go x + Te.nd.go l := rfl
  have hrE : rE e = true := by
    have e2 : rE e = (decide (e.nd ≤ 200 ∧ e.rk ≤ 16) && bE e) := rfl
    rw [e2, Bool.and_eq_true, decide_eq_true_eq]
    exact ⟨⟨by omega, by omega⟩, hb e hm⟩
  unfold kI
  rw [if_pos hrE]
  exact h4
theorem fit_good {z : Int} (h : (!(fitB (fitI z))) = false) : fitN (fitI z) = z := by
  cases hz : fitI z with
  | none => rw [hz] at h; cases h
  | some v =>
    unfold fitI at hz
    split at hz
    · injection hz with hz; exact hz.symm
    · cases hz
/-- What comes of a term: parts that may be there, of which nothing comes now. -/
def Comes (day : Int) (fx : List Fx) (n : Nat) (s s' : RS) : Prop := ∃ new, s'.ps = s.ps ++ new ∧ (∀ p ∈ new, PrtOk p ∧ Sat day fx p) ∧ ndL new ≤ n
theorem Comes.refl (n : Nat) (s : RS) : Comes day fx n s s := ⟨[], by simp, (fun p h => nomatch h), by simp [ndL]⟩
theorem Comes.up {n m : Nat} {s s' : RS} (h : Comes day fx n s s') (e : n ≤ m) : Comes day fx m s s' := by
  obtain ⟨l, h1, h2, h3⟩ := h
  exact ⟨l, h1, h2, by omega⟩
theorem Comes.trans {n m k : Nat} {a b c : RS} (h : Comes day fx n a b) (g : Comes day fx m b c) (e : n + m ≤ k) : Comes day fx k a c := by
  obtain ⟨l, h1, h2, h3⟩ := h
  obtain ⟨l', g1, g2, g3⟩ := g
  refine ⟨l ++ l', by rw [g1, h1, List.append_assoc], fun p hp => ?_, by rw [ndL_append]; omega⟩
  rcases List.mem_append.1 hp with h | h
  · exact h2 p h
  · exact g2 p h
theorem Comes.part {t : Te} {f : Int} {tn : Bool} {un : List Ex} {s : RS} (h : PrtOk ⟨f, tn, un, t⟩) (h' : Sat day fx ⟨f, tn, un, t⟩) : Comes day fx t.nd s { s with ps := s.ps ++ [⟨f, tn, un, t⟩] } :=
  ⟨[⟨f, tn, un, t⟩], rfl, fun p hp => by rw [List.mem_singleton] at hp; subst hp; exact ⟨h, h'⟩, by simp [ndL]⟩
/-- Scale and When, under what is known of the kid. -/
theorem wait_comes {t : Te} (hr : rT t = true) (hfit : fitT t = true) (hop : t.op = 6 ∨ t.op = 7) {f : Int} {tn : Bool} {un : List Ex} {s : RS}
    (hun : ∀ e ∈ un, kI e = 2 ∧ (evalX day fx e).K ≠ 3 ∧ (evalX day fx e).B = false) (hlen : un.length + t.rk ≤ 16)
    (ih : ∀ (f : Int) (s : RS), (acq day fx (t0 t) f tn un s).bad = false → Comes day fx (t0 t).nd s (acq day fx (t0 t) f tn un s))
    (h : (waitW (acq day fx) (evalX day fx (x0 t)) t f tn un s).bad = false) : Comes day fx t.nd s (waitW (acq day fx) (evalX day fx (x0 t)) t f tn un s) := by
  obtain ⟨-, n2, -⟩ := nd_kids (rT_get hr).2.2
  have n3 := n2 (by omega)
  unfold waitW at h ⊢
  by_cases h3 : (evalX day fx (x0 t)).K = 3
  · rw [if_pos h3] at h; cases h
  rw [if_neg h3] at h ⊢
  by_cases h6 : t.op = 6 ∧ (evalX day fx (x0 t)).K = 1
  · rw [if_pos h6] at h ⊢
    have h7 := ih _ _ h
    exact (show Comes day fx (t0 t).nd s _ from h7).up (by omega)
  rw [if_neg h6] at h ⊢
  by_cases h7 : t.op = 7 ∧ (evalX day fx (x0 t)).B = true
  · rw [if_pos h7] at h ⊢
    exact (ih _ _ h).up (by omega)
  rw [if_neg h7] at h ⊢
  refine Comes.part ⟨by show t.op = 5 ∨ t.op = 6 ∨ t.op = 7 ∨ t.op = 9; omega, hr, hfit, fun e he => (hun e he).1, hlen⟩ ⟨fun e he => (hun e he).2, fun h8 => ⟨h3, fun h9 => h6 ⟨h8, h9⟩⟩, fun h8 => ⟨h3, ?_⟩⟩
  cases hB : (evalX day fx (x0 t)).B with
  | false => rfl
  | true => exact absurd ⟨h8, hB⟩ h7
theorem acq_comes : ∀ (r : Nat) (t : Te), t.rk ≤ r → rT t = true → fitT t = true → ∀ (f : Int) (tn : Bool) (un : List Ex) (s : RS),
    (∀ e ∈ un, kI e = 2 ∧ (evalX day fx e).K ≠ 3 ∧ (evalX day fx e).B = false) → un.length + t.rk ≤ 16 → (acq day fx t f tn un s).bad = false → Comes day fx t.nd s (acq day fx t f tn un s) := by
  intro r
  induction r with
  | zero =>
    intro t hr
    obtain ⟨op, nm, x, l⟩ := t
    have h2 : (Te.mk op nm x l).rk = 1 + max (Ex.rk.go x) (Te.rk.go l) := rfl
    omega
  | succ r ih =>
    intro t hr hR hF f tn un s hun hlen h
    have hb := (rT_get hR).2.2
    obtain ⟨k1, k2, k3, -, -⟩ := te_kids hb
    obtain ⟨n1, n2, n3⟩ := nd_kids hb
    have kid : ∀ u ∈ t.terms, ∀ (f : Int) (tn : Bool) (s : RS), (acq day fx u f tn un s).bad = false → Comes day fx u.nd s (acq day fx u f tn un s) := fun u hu f tn s hg =>
      ih u (by have := rk_kid hu; omega) (rT_kid hR hu) (fit_kid hF hu) f tn un s hun (by have := rk_kid hu; omega) hg
    have m0 : t.op = 3 ∨ t.op = 4 ∨ t.op = 6 ∨ t.op = 7 ∨ t.op = 8 → t0 t ∈ t.terms := fun h' => by
      by_cases h4 : t.op = 4
      · rw [k2 (.inl h4)]; exact List.mem_cons_self ..
      · rw [k1 (by omega)]; exact List.mem_cons_self ..
    rw [acq_eq day fx hb] at h ⊢
    unfold acqB at h ⊢
    by_cases hs : s.bad = true
    · rw [if_pos hs]; exact Comes.refl _ _
    rw [if_neg hs] at h ⊢
    by_cases h2 : t.op = 2
    · rw [if_pos h2] at h ⊢
      split
      · exact Comes.refl _ _
      · exact Comes.refl _ s
    rw [if_neg h2] at h ⊢
    by_cases h3 : t.op = 3
    · rw [if_pos h3] at h ⊢
      have hx := kid _ (m0 (.inl h3)) _ _ _ h
      exact (show Comes day fx (t0 t).nd s _ from hx).up (by have := n2 (.inl h3); omega)
    rw [if_neg h3] at h ⊢
    by_cases h4 : t.op = 4
    · rw [if_pos h4] at h ⊢
      have m1 : t1 t ∈ t.terms := by rw [k2 (.inl h4)]; exact List.mem_cons_of_mem _ (List.mem_cons_self ..)
      exact (kid _ (m0 (by omega)) _ _ _ (acq_good h)).trans (kid _ m1 _ _ _ h) (by have := n1 h4; omega)
    rw [if_neg h4] at h ⊢
    by_cases h8 : t.op = 8
    · rw [if_pos h8] at h ⊢
      by_cases hK : (evalX day fx (x0 t)).K = 3
      · rw [if_pos hK] at h; cases h
      rw [if_neg hK] at h ⊢
      by_cases hB : (evalX day fx (x0 t)).B = true
      · rw [if_pos hB]; exact Comes.refl _ _
      rw [if_neg hB] at h ⊢
      have mx : x0 t ∈ t.exprs := by rw [k3 (by omega)]; exact List.mem_cons_self ..
      have hk := kI_kid hR hF mx
      have hn : needT t.op = 2 := by unfold needT; rw [if_neg (by omega)]
      have hu := m0 (by omega)
      refine (ih _ (by have := rk_kid hu; omega) (rT_kid hR hu) (fit_kid hF hu) f tn (un ++ [x0 t]) s (fun e he => ?_) ?_ h).up (by have := n2 (by omega); omega)
      · rcases List.mem_append.1 he with he | he
        · exact hun e he
        · rw [List.mem_singleton] at he; subst he
          exact ⟨hk.trans hn, hK, by cases hq : (evalX day fx (x0 t)).B with | false => rfl | true => exact absurd hq hB⟩
      · have := rk_kid hu
        rw [List.length_append, List.length_singleton]; omega
    rw [if_neg h8] at h ⊢
    by_cases h6 : t.op = 6 ∨ t.op = 7
    · rw [if_pos h6] at h ⊢
      exact wait_comes hR hF h6 hun hlen (fun f s hg => kid _ (m0 (by omega)) f tn s hg) h
    rw [if_neg h6] at h ⊢
    by_cases h5 : t.op = 5 ∨ t.op = 9
    · rw [if_pos h5] at h ⊢
      exact Comes.part ⟨by show t.op = 5 ∨ t.op = 6 ∨ t.op = 7 ∨ t.op = 9; omega, hR, hF, fun e he => (hun e he).1, hlen⟩ ⟨fun e he => (hun e he).2, fun h9 => by have : t.op = 6 := h9; omega, fun h9 => by have : t.op = 7 := h9; omega⟩
    rw [if_neg h5]
    exact Comes.refl _ _
theorem endB_no {l : List Ex} (h : ¬ endB day fx l = true) : ∀ e ∈ l, (evalX day fx e).B = false := by
  intro e he
  unfold endB at h
  rw [Bool.not_eq_true, List.any_eq_false] at h
  have := h e he
  simpa using this
theorem stepP_good {p : Prt} {s : RS} (h : (stepP day fx s p).bad = false) : (endS day fx p.til s).bad = false := by
  unfold stepP at h
  split at h
  · exact h
  · rename_i hn
    cases hb : (endS day fx p.til s).bad with
    | false => rfl
    | true => exact absurd (.inr hb) hn
theorem stepP_comes {p : Prt} (hp : PrtOk p) {s : RS} (h : (stepP day fx s p).bad = false) : Comes day fx p.term.nd s (stepP day fx s p) := by
  have hg := stepP_good h
  obtain ⟨g1, g2, g3⟩ := endS_good hg
  unfold stepP at h ⊢
  rw [g3] at h ⊢
  by_cases he : endB day fx p.til = true ∨ s.bad = true
  · rw [if_pos he]; exact Comes.refl _ _
  rw [if_neg he] at h ⊢
  have hun : ∀ e ∈ p.til, kI e = 2 ∧ (evalX day fx e).K ≠ 3 ∧ (evalX day fx e).B = false := fun e hm => ⟨hp.til e hm, g2 e hm, endB_no (fun hh => he (.inl hh)) e hm⟩
  by_cases h6 : p.term.op = 6 ∨ p.term.op = 7
  · rw [if_pos h6] at h ⊢
    obtain ⟨k1, -, -⟩ := te_kids (rT_get hp.right).2.2
    have hu : t0 p.term ∈ p.term.terms := by rw [k1 (by omega)]; exact List.mem_cons_self ..
    exact wait_comes hp.right hp.fit h6 hun hp.len (fun f s hq => acq_comes _ _ (Nat.le_refl _) (rT_kid hp.right hu) (fit_kid hp.fit hu) f _ _ s hun (by have := rk_kid hu; have := hp.len; omega) hq) h
  rw [if_neg h6] at h ⊢
  exact Comes.part (t := p.term) (f := p.factor) (tn := p.turned) (un := p.til) hp ⟨fun e hm => (hun e hm).2, fun h9 => absurd (.inl h9) h6, fun h9 => absurd (.inr h9) h6⟩
theorem stepL_bad {l : List Prt} {s : RS} (h : s.bad = true) : (stepL day fx l s).bad = true := by
  induction l generalizing s with
  | nil => exact h
  | cons p l ih =>
    refine ih ?_
    cases hq : (stepP day fx s p).bad with
    | true => rfl
    | false =>
      have := (endS_good (stepP_good hq)).1
      rw [h] at this; cases this
theorem stepL_comes {l : List Prt} (hl : ∀ p ∈ l, PrtOk p) {s : RS} (h : (stepL day fx l s).bad = false) : Comes day fx (ndL l) s (stepL day fx l s) := by
  induction l generalizing s with
  | nil => exact Comes.refl _ _
  | cons p l ih =>
    have h1 : (stepP day fx s p).bad = false := by
      cases hq : (stepP day fx s p).bad with
      | false => rfl
      | true =>
        have := stepL_bad (day := day) (fx := fx) (l := l) hq
        change (stepL day fx l (stepP day fx s p)).bad = false at h
        rw [this] at h; cases h
    exact (stepP_comes (hl p (List.mem_cons_self ..)) h1).trans (ih (fun q hq => hl q (List.mem_cons_of_mem _ hq)) h) (by simp [ndL])
/-- A Step changes nothing where nothing comes. -/
theorem stepP_sat {p : Prt} (hs : Sat day fx p) {s : RS} (h : s.bad = false) : stepP day fx s p = { s with ps := s.ps ++ [p] } := by
  have e : endS day fx p.til s = s := by
    rw [endS_eq]
    have : (p.til.any fun e => decide ((evalX day fx e).K = 3)) = false := by
      rw [List.any_eq_false]; intro e he; have := (hs.til e he).1; simpa using this
    rw [this, Bool.or_false]
  unfold stepP
  rw [e]
  have hB : ¬ (endB day fx p.til = true ∨ s.bad = true) := by
    rintro (h1 | h1)
    · unfold endB at h1
      obtain ⟨x, hx, hxB⟩ := List.any_eq_true.1 h1
      rw [(hs.til x hx).2] at hxB; cases hxB
    · rw [h] at h1; cases h1
  rw [if_neg hB]
  by_cases h6 : p.term.op = 6 ∨ p.term.op = 7
  · rw [if_pos h6]
    unfold waitW
    rw [if_neg (by rcases h6 with h6 | h6; exact (hs.x6 h6).1; exact (hs.x7 h6).1), if_neg (fun hh => (hs.x6 hh.1).2 hh.2), if_neg (fun hh => by have := (hs.x7 hh.1).2; rw [this] at hh; cases hh.2)]
  · rw [if_neg h6]
theorem stepL_sat {l : List Prt} (hs : ∀ p ∈ l, Sat day fx p) {s : RS} (h : s.bad = false) : stepL day fx l s = { s with ps := s.ps ++ l } := by
  induction l generalizing s with
  | nil => cases s; simp [stepL]
  | cons p l ih =>
    have h1 : stepL day fx (p :: l) s = stepL day fx l (stepP day fx s p) := rfl
    rw [h1, stepP_sat (hs p (List.mem_cons_self ..)) h, ih (fun q hq => hs q (List.mem_cons_of_mem _ hq)) (s := { s with ps := s.ps ++ [p] }) h]
    simp
/-- The other side. -/
def negP (p : Prt) : Prt := { p with factor := -p.factor, turned := !p.turned }
def negF (f : Flw) : Flw := { f with amt := -f.amt }
def Opp (s s' : RS) : Prop := s'.ps = s.ps.map negP ∧ s'.fs = s.fs.map negF
theorem Opp.part {s s' : RS} (h : Opp s s') (p : Prt) : Opp { s with ps := s.ps ++ [p] } { s' with ps := s'.ps ++ [negP p] } := ⟨by show s'.ps ++ [negP p] = (s.ps ++ [p]).map negP; rw [h.1, List.map_append]; rfl, h.2⟩
theorem Opp.flow {s s' : RS} (h : Opp s s') (p : Flw) : Opp { s with fs := s.fs ++ [p] } { s' with fs := s'.fs ++ [negF p] } := ⟨h.1, by show s'.fs ++ [negF p] = (s.fs ++ [p]).map negF; rw [h.2, List.map_append]; rfl⟩
theorem wait_opp {V : Vl} {t : Te} {f : Int} {tn : Bool} {un : List Ex} {s s' : RS} (ho : Opp s s')
    (ih : ∀ (f : Int) (s s' : RS), Opp s s' → (acq day fx (t0 t) f tn un s).bad = false → (acq day fx (t0 t) (-f) (!tn) un s').bad = false → Opp (acq day fx (t0 t) f tn un s) (acq day fx (t0 t) (-f) (!tn) un s'))
    (h : (waitW (acq day fx) V t f tn un s).bad = false) (h' : (waitW (acq day fx) V t (-f) (!tn) un s').bad = false) : Opp (waitW (acq day fx) V t f tn un s) (waitW (acq day fx) V t (-f) (!tn) un s') := by
  unfold waitW at h h' ⊢
  by_cases h3 : V.K = 3
  · rw [if_pos h3] at h; cases h
  rw [if_neg h3] at h h'
  rw [if_neg h3, if_neg h3]
  by_cases h6 : t.op = 6 ∧ V.K = 1
  · rw [if_pos h6] at h h'
    rw [if_pos h6, if_pos h6]
    have e1 := fit_good (acq_good h)
    have e2 := fit_good (acq_good h')
    rw [e1] at h ⊢
    rw [e2] at h' ⊢
    rw [Int.neg_mul] at h' ⊢
    exact ih _ ⟨s.ps, s.fs, _⟩ ⟨s'.ps, s'.fs, _⟩ ⟨ho.1, ho.2⟩ h h'
  rw [if_neg h6] at h h'
  rw [if_neg h6, if_neg h6]
  by_cases h7 : t.op = 7 ∧ V.B = true
  · rw [if_pos h7] at h h'
    rw [if_pos h7, if_pos h7]
    exact ih _ _ _ ho h h'
  rw [if_neg h7] at h h'
  rw [if_neg h7, if_neg h7]
  exact ho.part ⟨f, tn, un, t⟩
theorem acq_opp : ∀ (r : Nat) (t : Te), t.rk ≤ r → bT t = true → ∀ (f : Int) (tn : Bool) (un : List Ex) (s s' : RS), Opp s s' →
    (acq day fx t f tn un s).bad = false → (acq day fx t (-f) (!tn) un s').bad = false → Opp (acq day fx t f tn un s) (acq day fx t (-f) (!tn) un s') := by
  intro r
  induction r with
  | zero =>
    intro t hr
    obtain ⟨op, nm, x, l⟩ := t
    have h2 : (Te.mk op nm x l).rk = 1 + max (Ex.rk.go x) (Te.rk.go l) := rfl
    omega
  | succ r ih =>
    intro t hr hb f tn un s s' ho h h'
    obtain ⟨k1, k2, -, -, -⟩ := te_kids hb
    have kid : ∀ u ∈ t.terms, ∀ (f : Int) (tn : Bool) (un : List Ex) (s s' : RS), Opp s s' → (acq day fx u f tn un s).bad = false → (acq day fx u (-f) (!tn) un s').bad = false → Opp (acq day fx u f tn un s) (acq day fx u (-f) (!tn) un s') :=
      fun u hu => ih u (by have := rk_kid hu; omega) (bT_kid hb hu)
    have m0 : t.op = 3 ∨ t.op = 4 ∨ t.op = 6 ∨ t.op = 7 ∨ t.op = 8 → t0 t ∈ t.terms := fun h' => by
      by_cases h4 : t.op = 4
      · rw [k2 (.inl h4)]; exact List.mem_cons_self ..
      · rw [k1 (by omega)]; exact List.mem_cons_self ..
    rw [acq_eq day fx hb] at h ⊢
    rw [acq_eq day fx hb] at h' ⊢
    unfold acqB at h h' ⊢
    by_cases hs : s.bad = true
    · rw [if_pos hs, hs] at h; cases h
    by_cases hs' : s'.bad = true
    · rw [if_pos hs', hs'] at h'; cases h'
    rw [if_neg hs] at h ⊢
    rw [if_neg hs'] at h' ⊢
    by_cases h2 : t.op = 2
    · rw [if_pos h2] at h h' ⊢
      rw [if_pos h2]
      by_cases hf : f = 0
      · rw [if_pos hf, if_pos (by omega)]; exact ho
      · rw [if_neg hf, if_neg (by omega)]; exact ho.flow ⟨t.nm, f⟩
    rw [if_neg h2] at h h' ⊢
    rw [if_neg h2]
    by_cases h3 : t.op = 3
    · rw [if_pos h3] at h h' ⊢
      rw [if_pos h3]
      have e1 := fit_good (acq_good h)
      have e2 := fit_good (acq_good h')
      rw [e1] at h ⊢
      rw [e2] at h' ⊢
      exact kid _ (m0 (.inl h3)) _ _ _ ⟨s.ps, s.fs, _⟩ ⟨s'.ps, s'.fs, _⟩ ⟨ho.1, ho.2⟩ h h'
    rw [if_neg h3] at h h' ⊢
    rw [if_neg h3]
    by_cases h4 : t.op = 4
    · rw [if_pos h4] at h h' ⊢
      rw [if_pos h4]
      have m1 : t1 t ∈ t.terms := by rw [k2 (.inl h4)]; exact List.mem_cons_of_mem _ (List.mem_cons_self ..)
      exact kid _ m1 _ _ _ _ _ (kid _ (m0 (by omega)) _ _ _ _ _ ho (acq_good h) (acq_good h')) h h'
    rw [if_neg h4] at h h' ⊢
    rw [if_neg h4]
    by_cases h8 : t.op = 8
    · rw [if_pos h8] at h h' ⊢
      rw [if_pos h8]
      by_cases hK : (evalX day fx (x0 t)).K = 3
      · rw [if_pos hK] at h; cases h
      rw [if_neg hK] at h h' ⊢
      rw [if_neg hK]
      by_cases hB : (evalX day fx (x0 t)).B = true
      · rw [if_pos hB, if_pos hB]; exact ho
      rw [if_neg hB] at h h' ⊢
      rw [if_neg hB]
      exact kid _ (m0 (by omega)) _ _ _ _ _ ho h h'
    rw [if_neg h8] at h h' ⊢
    rw [if_neg h8]
    by_cases h6 : t.op = 6 ∨ t.op = 7
    · rw [if_pos h6] at h h' ⊢
      rw [if_pos h6]
      exact wait_opp ho (fun f s s' => kid _ (m0 (by omega)) f tn un s s') h h'
    rw [if_neg h6] at h h' ⊢
    rw [if_neg h6]
    by_cases h5 : t.op = 5 ∨ t.op = 9
    · rw [if_pos h5, if_pos h5]; exact ho.part ⟨f, tn, un, t⟩
    rw [if_neg h5, if_neg h5]
    exact ho
theorem stepP_opp {p : Prt} (hb : bT p.term = true) {s s' : RS} (ho : Opp s s') (h : (stepP day fx s p).bad = false) (h' : (stepP day fx s' (negP p)).bad = false) : Opp (stepP day fx s p) (stepP day fx s' (negP p)) := by
  obtain ⟨g1, g2, g3⟩ := endS_good (stepP_good h)
  obtain ⟨g1', g2', g3'⟩ := endS_good (stepP_good h')
  unfold stepP at h h' ⊢
  rw [g3] at h ⊢
  rw [g3'] at h' ⊢
  have e1 : (negP p).til = p.til := rfl
  have e2 : (negP p).term = p.term := rfl
  rw [e1, e2] at h' ⊢
  rw [g1] at h ⊢
  rw [g1'] at h' ⊢
  by_cases he : endB day fx p.til = true ∨ false = true
  · rw [if_pos he, if_pos he]; exact ho
  rw [if_neg he] at h h' ⊢
  rw [if_neg he]
  by_cases h6 : p.term.op = 6 ∨ p.term.op = 7
  · rw [if_pos h6] at h h' ⊢
    rw [if_pos h6]
    obtain ⟨k1, -, -⟩ := te_kids hb
    have hu : t0 p.term ∈ p.term.terms := by rw [k1 (by omega)]; exact List.mem_cons_self ..
    exact wait_opp ho (fun f s s' => acq_opp _ _ (Nat.le_refl _) (bT_kid hb hu) f _ _ s s') h h'
  rw [if_neg h6, if_neg h6]
  exact ho.part p
theorem stepL_opp {l : List Prt} (hb : ∀ p ∈ l, bT p.term = true) {s s' : RS} (ho : Opp s s') (h : (stepL day fx l s).bad = false) (h' : (stepL day fx (l.map negP) s').bad = false) : Opp (stepL day fx l s) (stepL day fx (l.map negP) s') := by
  induction l generalizing s s' with
  | nil => exact ho
  | cons p l ih =>
    have h1 : (stepP day fx s p).bad = false := by
      cases hq : (stepP day fx s p).bad with
      | false => rfl
      | true =>
        have := stepL_bad (day := day) (fx := fx) (l := l) hq
        change (stepL day fx l (stepP day fx s p)).bad = false at h
        rw [this] at h; cases h
    have h1' : (stepP day fx s' (negP p)).bad = false := by
      cases hq : (stepP day fx s' (negP p)).bad with
      | false => rfl
      | true =>
        have := stepL_bad (day := day) (fx := fx) (l := l.map negP) hq
        change (stepL day fx (l.map negP) (stepP day fx s' (negP p))).bad = false at h'
        rw [this] at h'; cases h'
    exact ih (fun q hq => hb q (List.mem_cons_of_mem _ hq)) (stepP_opp (hb p (List.mem_cons_self ..)) ho h1 h1') h h'
end
end Go.Proofs.Ytmiinmndbkdjbaa

/- The contract of Size; condition: the tree is less than 1000 deep. -/
namespace Go.Proofs.Ytmiinmndbkdjbaa
set_option linter.unusedVariables false
set_option linter.unusedSimpArgs false
open Go.RowKit
theorem size_any (e : Te) (cs : List Value) (w : World) (hR : RepT w [] e cs) (hk : e.rk < 1000) :
    Calls Try.prog 8 #[.agg cs.toArray] w fun x w' => x = .returned (.tuple #[.int .i64 (if e.nd < 1000 then (e.nd : Int) else 1000), .int .i64 (if e.nd < 1000 then (e.rk : Int) else 1000)]) ∧ Below w.heap.size w w' := by
  have HS := Lib.hid (fun W hW => sizeTerm_any e.rk e (Nat.le_refl _) cs 0 W (hR.kept hW) (by omega) (by omega))
  have HT := Lib.hid (fun x d (h : St e.nd e.rk x d) => h.told hk)
  obtain ⟨op, nm, ex, te, a, len, cap, a2, len2, cap2, rfl, rfl, _, _, _, _⟩ := hR.inv
  have hk0 := Lib.hid (Kept.alloc w (.cells #[.int .i64 op, .string nm, .slice a len cap, .slice a2 len2 cap2] 32) [])
  have HW0 := Lib.hid ((Below.refl w.heap.size w).alloc (Nat.le_refl _) (.cells #[.int .i64 op, .string nm, .slice a len cap, .slice a2 len2 cap2] 32))
  generalize (Te.mk op nm ex te).nd = ND at *
  generalize (Te.mk op nm ex te).rk = RK at *
  generalize (if ND < 1000 then (ND : Int) else 1000) = U at *
  generalize (if ND < 1000 then (RK : Int) else 1000) = V at *
  clear hR hk
  go_enter Try.func8, Try.ntmps8
  go_wp2_with fail
  refine (HS.out _ hk0.out).mono ?_; rintro x w1 ⟨hx, b1⟩
  obtain ⟨x, d, rfl, hst⟩ := hx.st
  have E := Lib.hid (HT.out x d hst)
  clear hst hx
  go_wp2_with fail
  refine (told_size_any _ _ _).mono ?_; rintro x w2 ⟨rfl, b2⟩
  rw [E.out.1, E.out.2]
  go_wp2
  go_ret2
  exact ⟨rfl, (HW0.out.trans (b1.mono HW0.out.size)).trans (b2.mono (HW0.out.trans (b1.mono HW0.out.size)).size)⟩
end Go.Proofs.Ytmiinmndbkdjbaa

/- The contract of life.Right. -/
namespace Go.Proofs.Ytmiinmndbkdjbaa
set_option linter.unusedVariables false
set_option linter.unusedSimpArgs false
open Go.RowKit
def lastB (op : Int) : Bool := decide (op = 5 ∨ op = 6 ∨ op = 7 ∨ op = 9)
def partB (p : Prt) : Bool := lastB p.term.op && decide (fitC p.term = 0) && decide (p.til.length ≤ 16) && !(p.til.any fun e => kI e != 2)
def rightP (l : List Prt) : Bool := l.all partB && decide (ndL l ≤ 200)
theorem pt_at {w : World} {X : List Nat} {l : List Prt} {a : Option Addr} {len cap : Nat} (h : SlR ptK w X l a len cap) (k : Nat) (hk : k < len) :
    ∃ b o p ua uc op nm xa xl xc ta tl tc, a = some ⟨b, o, none⟩ ∧ b < w.heap.size ∧ b ∉ X ∧ l[k]? = some p ∧ op = p.term.op ∧ I64 p.factor ∧ SlR exK w X p.til ua p.til.length uc ∧ RepT w X p.term [.int .i64 op, .string nm, .slice xa xl xc, .slice ta tl tc] ∧
      w.cell? ⟨b, o + k * 7, none⟩ = some (.int .i64 p.factor) ∧ w.cell? ⟨b, o + k * 7 + 1, none⟩ = some (.bool p.turned) ∧ w.cell? ⟨b, o + k * 7 + 2, none⟩ = some (.slice ua p.til.length uc) ∧ w.cell? ⟨b, o + k * 7 + 3, none⟩ = some (.int .i64 op) ∧ w.cell? ⟨b, o + k * 7 + 4, none⟩ = some (.string nm) ∧ w.cell? ⟨b, o + k * 7 + 5, none⟩ = some (.slice xa xl xc) ∧ w.cell? ⟨b, o + k * 7 + 6, none⟩ = some (.slice ta tl tc) := by
  obtain ⟨b, o, p, cs, ha, hb, hX, hp, hR, -, hc⟩ := h.at k hk
  have hR' : ∃ a cap ct, cs = .int .i64 p.factor :: .bool p.turned :: .slice a p.til.length cap :: ct ∧ I64 p.factor ∧ SlR exK w X p.til a p.til.length cap ∧ RepT w X p.term ct := hR
  obtain ⟨ua, uc, ct, e, h1, h2, h3⟩ := hR'
  obtain ⟨op, nm, exprs, terms, xa, xl, xc, ta, tl, tc, e1, e2, -, -, -, -⟩ := h3.inv
  subst e2
  subst e
  exact ⟨b, o, p, ua, uc, op, nm, xa, xl, xc, ta, tl, tc, ha, hb, hX, hp, by rw [e1]; rfl, h1, h2, h3, hc 0 _ rfl, hc 1 _ rfl, hc 2 _ rfl, hc 3 _ rfl, hc 4 _ rfl, hc 5 _ rfl, hc 6 _ rfl⟩
set_option maxRecDepth 100000 in
set_option maxHeartbeats 4000000 in
theorem lasting_any (op : Int) (nm : ByteArray) (xa ta : Option Addr) (xl xc tl tc : Nat) (w : World) :
    Calls Try.prog 26 #[.agg #[.int .i64 op, .string nm, .slice xa xl xc, .slice ta tl tc]] w fun x w' => x = .returned (.bool (lastB op)) ∧ Below w.heap.size w w' := by
  have HB := Lib.hid (below_nT w (.cells #[.int .i64 op, .string nm, .slice xa xl xc, .slice ta tl tc] 32))
  have B1 := Lib.hid (Mem.Blk.new w 32 #[.int .i64 op, .string nm, .slice xa xl xc, .slice ta tl tc])
  by_cases h6 : op = 6
  · subst h6
    go_enter Try.func26, Try.ntmps26
    go_upto_region 1 with (fail)
    generalize w.alloc (.cells _ 32) = w1 at *
    obtain ⟨c0, c1, c2, c3, -, -, -, -⟩ := blk4 B1.out
    go_wp2_with fail
    go_ret
    exact ⟨rfl, HB.out⟩
  by_cases h7 : op = 7
  · subst h7
    go_enter Try.func26, Try.ntmps26
    go_upto_region 1 with (fail)
    generalize w.alloc (.cells _ 32) = w1 at *
    obtain ⟨c0, c1, c2, c3, -, -, -, -⟩ := blk4 B1.out
    go_wp2_with fail
    go_ret
    exact ⟨rfl, HB.out⟩
  by_cases h5 : op = 5
  · subst h5
    go_enter Try.func26, Try.ntmps26
    go_upto_region 1 with (fail)
    generalize w.alloc (.cells _ 32) = w1 at *
    obtain ⟨c0, c1, c2, c3, -, -, -, -⟩ := blk4 B1.out
    go_wp2_with fail
    go_ret
    exact ⟨rfl, HB.out⟩
  by_cases h9 : op = 9
  · subst h9
    go_enter Try.func26, Try.ntmps26
    go_upto_region 1 with (fail)
    generalize w.alloc (.cells _ 32) = w1 at *
    obtain ⟨c0, c1, c2, c3, -, -, -, -⟩ := blk4 B1.out
    go_wp2_with fail
    go_ret
    exact ⟨rfl, HB.out⟩
  have hL : lastB op = false := by unfold lastB; rw [decide_eq_false_iff_not]; omega
  rw [hL]
  have b6 : (op == 6) = false := beq_eq_false_iff_ne.2 h6
  have b7 : (op == 7) = false := beq_eq_false_iff_ne.2 h7
  have b5 : (op == 5) = false := beq_eq_false_iff_ne.2 h5
  have b9 : (op == 9) = false := beq_eq_false_iff_ne.2 h9
  clear hL
  go_enter Try.func26, Try.ntmps26
  go_upto_region 1 with (fail)
  generalize w.alloc (.cells _ 32) = w1 at *
  obtain ⟨c0, c1, c2, c3, -, -, -, -⟩ := blk4 B1.out
  go_wp2_with fail
  go_ret
  exact ⟨rfl, HB.out⟩
set_option maxRecDepth 100000 in
set_option maxHeartbeats 4000000 in
theorem odd_any (e : Ex) (cs : List Value) (w : World) (hR : RepE w [] e cs) (hk : e.rk ≤ 1000) :
    Calls Try.prog 24 #[.agg cs.toArray] w fun x w' => x = .returned (.bool (kI e != 2)) ∧ Below w.heap.size w w' := by
  have HQ := Lib.hid (fun W (hW : Below w.heap.size w W) => kindX_any e cs W (hR.kept (Kept.of_below hW [])) hk)
  obtain ⟨op, no, nm, args, a, len, cap, e1, rfl, -, -, -, -⟩ := hR.inv
  have HB := Lib.hid (below_nT w (.cells #[.int .i64 op, .int .i64 no, .string nm, .slice a len cap] 53))
  have B1 := Lib.hid (Mem.Blk.new w 53 #[.int .i64 op, .int .i64 no, .string nm, .slice a len cap])
  generalize kI e = K at *
  clear e1 hR hk
  go_enter Try.func24, Try.ntmps24
  go_upto_region 1 with (fail)
  generalize w.alloc (.cells #[.int .i64 op, .int .i64 no, .string nm, .slice a len cap] 53) = w1 at *
  obtain ⟨c0, c1, c2, c3, -, -, -, -⟩ := blk4 B1.out
  go_wp2_with fail
  go_at_call 25
  (with_reducible refine (HQ.out _ HB.out).mono ?_)
  rintro y w2 ⟨rfl, b2⟩
  have HB2 := Lib.hid (HB.out.trans (b2.mono HB.out.size))
  clear b2 HB HQ
  go_wp2_with fail
  go_ret
  exact ⟨rfl, HB2.out⟩
theorem ndL_take {l : List Prt} {k : Nat} {p : Prt} (h : l[k]? = some p) : l.take (k + 1) = l.take k ++ [p] ∧ ndL (l.take (k + 1)) = ndL (l.take k) + p.term.nd := by
  obtain ⟨hk, e⟩ := List.getElem?_eq_some_iff.1 h
  have e2 : l.take (k + 1) = l.take k ++ [p] := by rw [← e]; exact (List.take_append_getElem hk).symm
  exact ⟨e2, by rw [e2, ndL_append]; simp [ndL]⟩
theorem ndL_le (l : List Prt) (k : Nat) : ndL (l.take k) ≤ ndL l := by
  conv => rhs; rw [← List.take_append_drop k l]
  rw [ndL_append]; omega
theorem rightP_no {l : List Prt} {k : Nat} {p : Prt} (h : l[k]? = some p) (hp : partB p = false) : rightP l = false := by
  unfold rightP
  have : l.all partB = false := by
    rw [Bool.eq_false_iff]; intro h1
    rw [List.all_eq_true.1 h1 p (List.mem_of_getElem? h)] at hp; cases hp
  rw [this]; rfl
theorem rightP_big {l : List Prt} {k : Nat} (h : 200 < ndL (l.take k)) : rightP l = false := by
  unfold rightP
  have := ndL_le l k
  rw [decide_eq_false (by omega), Bool.and_false]
set_option maxRecDepth 100000 in
set_option maxHeartbeats 8000000 in
theorem rightL_any (l : List Prt) (a : Option Addr) (len cap : Nat) (w : World) (hS : SlR ptK w [] l a len cap) (hk : ∀ p ∈ l, p.term.rk < 1000 ∧ p.til.length ≤ 1000 ∧ ∀ e ∈ p.til, e.rk ≤ 1000) (hlen : len ≤ 1000) :
    Calls Try.prog 11 #[.slice a len cap] w fun x w' => x = .returned (.bool (rightP l)) ∧ Below w.heap.size w w' := by
  have HS := Lib.hid hS
  have HL := Lib.hid hS.facts.1
  have HK := Lib.hid hk
  have HLN := Lib.hid hlen
  obtain ⟨RP, hRP⟩ : ∃ R, R = rightP l := ⟨_, rfl⟩
  rw [← hRP]
  have HRP := Lib.hid hRP
  clear hS hk hlen hRP
  go_enter Try.func11, Try.ntmps11
  go_wp2_with fail
  go_loopw [4, 11] (fun v i wr => ∃ (k : Nat), v = .int .i64 ((ndL (l.take k) : Nat) : Int) ∧ i = .int .i64 (k : Nat) ∧ k ≤ len ∧ Hid (Below w.heap.size w wr) ∧ Hid ((l.take k).all partB = true ∧ ndL (l.take k) ≤ 200)) (fun _ i _ => len - (intOf i).toNat)
  case atStart => exact ⟨0, rfl, rfl, Nat.zero_le _, Below.refl _ _, rfl, by simp [ndL]⟩
  case round =>
    rename World => w3
    obtain ⟨k, rfl, rfl, hk, HB, HI⟩ := hrel
    by_cases hlt : k < len
    · have hlt' : (k : Int) < (len : Int) := by omega
      have k0 : (0 : Int) ≤ (k : Int) := by omega
      have k1 : (k : Int) ≤ 1000 := by have := HLN.out; omega
      obtain ⟨b, o, p, ua, uc, op, nm, xa, xl, xc, ta, tl, tc, ha, -, -, hp, hop, hf, hU, hT, u0, u1, u2, u3, u4, u5, u6⟩ := pt_at (HS.out.kept (Kept.of_below HB.out [])) k hlt
      obtain ⟨hk1, hk2, hk3⟩ := HK.out p (List.mem_of_getElem? hp)
      have HTK := Lib.hid (ndL_take hp)
      have HP := Lib.hid hp
      have HNO := Lib.hid (fun h => HRP.out.trans (rightP_no hp h))
      have HBIG := Lib.hid (fun h => HRP.out.trans (rightP_big (l := l) (k := k + 1) h))
      have HLT := Lib.hid hlt
      generalize p.factor = pf at *
      generalize p.turned = pt at *
      have bn := below_nT w3 (.cells #[.int .i64 pf, .bool pt, .slice ua p.til.length uc, .int .i64 op, .string nm, .slice xa xl xc, .slice ta tl tc] 71)
      have BX := Lib.hid (Mem.Blk.new w3 71 #[.int .i64 pf, .bool pt, .slice ua p.til.length uc, .int .i64 op, .string nm, .slice xa xl xc, .slice ta tl tc])
      have HB4 := Lib.hid (HB.out.trans (bn.mono HB.out.size))
      have hT4 := hT.kept (Kept.of_below bn [])
      have hU4 := hU.kept (Kept.of_below bn [])
      generalize hw4 : w3.alloc (.cells #[.int .i64 pf, .bool pt, .slice ua p.til.length uc, .int .i64 op, .string nm, .slice xa xl xc, .slice ta tl tc] 71) = w4 at *
      have HLS := Lib.hid (fun W => lasting_any op nm xa ta xl xc tl tc W)
      have HFT := Lib.hid (fun W (hW : Below w4.heap.size w4 W) => fitsX_any p.term _ W (hT4.kept (Kept.of_below hW [])) hk1)
      have HCT := Lib.hid (fun W (hW : Below w4.heap.size w4 W) => containsE_any 24 (fun e => kI e != 2) p.til ua p.til.length uc W (enters_of Try.func24 (by kernel_rfl) rfl) (hU4.kept (Kept.of_below hW [])).slE (fun j e cs W' he hR => odd_any e cs W' hR (hk3 e (List.mem_of_getElem? he))))
      have HSZ := Lib.hid (fun W (hW : Below w4.heap.size w4 W) => size_any p.term _ W (hT4.kept (Kept.of_below hW [])) hk1)
      have hpb : partB p = (lastB op && decide (fitC p.term = 0) && decide (p.til.length ≤ 16) && !(p.til.any fun e => kI e != 2)) := by rw [hop]; rfl
      have HPB := Lib.hid hpb
      have HFC : Hid (fitC p.term = 0 → p.term.nd ≤ 200) := fun h => by
        unfold fitC at h
        split at h
        · rename_i hr; exact (rT_get hr).1
        · cases h
      have H2 := Lib.hid hk2
      have HA := Lib.hid ha
      generalize p.til.any (fun e => kI e != 2) = OD at *
      generalize fitC p.term = FC at *
      generalize lastB op = LB at *
      generalize p.til.length = UL at *
      generalize p.term.nd = ND at *
      have HTK2 : Hid (ndL (l.take (k + 1)) = ndL (l.take k) + ND) := HTK.out.2
      have HAL : Hid (partB p = true → (l.take (k + 1)).all partB = true) := fun h => by
        rw [HTK.out.1, List.all_append, HI.out.1]
        simp [h]
      have HSUM := Lib.hid HI.out.2
      clear HTK HI hT hU hT4 hU4 hf hp hpb hk1 hk2 hk3 hop bn hlt
      generalize ndL (l.take k) = A at *
      subst ha
      go_upto_region 6 with (fail)
      clear hw4 u0 u1 u2 u3 u4 u5 u6
      obtain ⟨c0, c1, c2, c3, c4, c5, c6⟩ := blk7 BX.out
      go_wp2_with fail
      (with_reducible refine (HLS.out _).mono ?_)
      rintro y w5 ⟨rfl, b5⟩
      replace c0 := cell_up c0 b5
      replace c1 := cell_up c1 b5
      replace c2 := cell_up c2 b5
      replace c3 := cell_up c3 b5
      replace c4 := cell_up c4 b5
      replace c5 := cell_up c5 b5
      replace c6 := cell_up c6 b5
      clear HLS
      cases LB with
      | false =>
        have HF := Lib.hid (HNO.out (by rw [HPB.out]; rfl))
        go_wp2_with fail
        go_ret
        exact ⟨by rw [HF.out]; rfl, HB4.out.trans (b5.mono HB4.out.size)⟩
      | true =>
        go_wp2_with fail
        (with_reducible refine (HFT.out _ b5).mono ?_)
        rintro y w6 ⟨rfl, b6'⟩
        have b6 := b5.trans (b6'.mono b5.size)
        replace c0 := cell_up c0 b6'
        replace c1 := cell_up c1 b6'
        replace c2 := cell_up c2 b6'
        replace c3 := cell_up c3 b6'
        replace c4 := cell_up c4 b6'
        replace c5 := cell_up c5 b6'
        replace c6 := cell_up c6 b6'
        clear b5 b6' HFT
        by_cases hfc : FC = 0
        · have HFC0 := Lib.hid hfc
          have hn0 : (FC != 0) = false := by rw [hfc]; rfl
          clear hfc
          by_cases h16 : UL ≤ 16
          · have hu : ¬ (16 : Int) < (UL : Int) := by omega
            have H16 := Lib.hid h16
            clear h16
            go_wp2_with fail
            (with_reducible refine (HCT.out _ b6).mono ?_)
            rintro y w7 ⟨rfl, b7'⟩
            have b7 := b6.trans (b7'.mono b6.size)
            replace c0 := cell_up c0 b7'
            replace c1 := cell_up c1 b7'
            replace c2 := cell_up c2 b7'
            replace c3 := cell_up c3 b7'
            replace c4 := cell_up c4 b7'
            replace c5 := cell_up c5 b7'
            replace c6 := cell_up c6 b7'
            clear b6 b7' HCT
            cases OD with
            | true =>
              have HF := Lib.hid (HNO.out (by rw [HPB.out]; simp))
              go_wp2_with fail
              go_ret
              exact ⟨by rw [HF.out]; rfl, HB4.out.trans (b7.mono HB4.out.size)⟩
            | false =>
              have HPT := Lib.hid (HAL.out (by rw [HPB.out, HFC0.out, decide_eq_true H16.out]; rfl))
              have hnd := HFC.out HFC0.out
              have hnt : ND < 1000 := by omega
              rw [if_pos hnt, if_pos hnt] at HSZ
              clear hnt
              have HND := Lib.hid hnd
              clear hnd
              go_wp2_with fail
              (with_reducible refine (HSZ.out _ b7).mono ?_)
              rintro y w8 ⟨rfl, b8'⟩
              have b8 := b7.trans (b8'.mono b7.size)
              clear b7 b8' HSZ
              have s0 : (0 : Int) ≤ (A : Int) + (ND : Int) := by omega
              have s1 : (A : Int) + (ND : Int) ≤ 1000 := by have := HND.out; have := HSUM.out; omega
              have HB9 := Lib.hid (HB4.out.trans (b8.mono HB4.out.size))
              clear b8
              by_cases hbig : 200 < A + ND
              · have hb1 : (200 : Int) < (A : Int) + (ND : Int) := by omega
                have HF := Lib.hid (HBIG.out (by rw [HTK2.out]; exact hbig))
                clear hbig
                go_wp2_with fail
                go_ret
                exact ⟨by rw [HF.out]; rfl, HB9.out⟩
              · have hb1 : ¬ (200 : Int) < (A : Int) + (ND : Int) := by omega
                have HS9 : Hid (A + ND ≤ 200) := by show _ ≤ _; omega
                clear hbig
                go_wp2_with fail
                go_roundw
                case rel => exact ⟨k + 1, by rw [HTK2.out]; go_num, by go_num, by have := HLT.out; omega, HB9.out, HPT.out, by rw [HTK2.out]; exact HS9.out⟩
                case measure => simp [intOf]; have := HLT.out; omega
          · have hu : (16 : Int) < (UL : Int) := by omega
            have HF := Lib.hid (HNO.out (by rw [HPB.out, decide_eq_false h16]; simp))
            clear h16
            go_wp2_with fail
            go_ret
            exact ⟨by rw [HF.out]; rfl, HB4.out.trans (b6.mono HB4.out.size)⟩
        · have hn0 : (FC != 0) = true := bne_iff_ne.2 hfc
          have HF := Lib.hid (HNO.out (by rw [HPB.out, decide_eq_false hfc]; simp))
          clear hfc
          go_wp2_with fail
          go_ret
          exact ⟨by rw [HF.out]; rfl, HB4.out.trans (b6.mono HB4.out.size)⟩
    · have hlt' : ¬ (k : Int) < (len : Int) := by omega
      obtain rfl : k = len := by omega
      have e : l.take k = l := List.take_of_length_le (by rw [HL.out]; omega)
      rw [e] at HI ⊢
      have HF : Hid (RP = true) := by
        have h := HRP.out
        unfold rightP at h
        rw [HI.out.1, decide_eq_true HI.out.2] at h
        exact h
      clear hlt
      go_wp2_with fail
      go_ret
      exact ⟨by rw [HF.out]; rfl, HB.out⟩
end Go.Proofs.Ytmiinmndbkdjbaa

/- A Scale or a When that waits, or goes on (begun). -/
namespace Go.Proofs.Ytmiinmndbkdjbaa
set_option linter.unusedVariables false
set_option linter.unusedSimpArgs false
open Go.RowKit
/-- What acquiring a term does. -/
def AcqC (base rb : Nat) (day : Int) (fx : List Fx) (fa : Option Addr) (fl fc : Nat) (t : Te) : Prop :=
  ∀ (f : Int) (tn : Bool) (un : List Ex) (s : RS) (vP vF : Value) (ua : Option Addr) (uc : Nat) (cs : List Value) (w : World), I64 f → RunJ base rb day fx fa fl fc w s vP vF →
    RepT w (X3 rb vP vF) t cs → SlR exK w (X3 rb vP vF) un ua un.length uc → un.length + t.rk ≤ 1000 → s.ps.length + t.nd ≤ 100000 → s.fs.length + t.nd ≤ 100000 →
    Calls Try.prog 22 #[.pointer (some ⟨rb, 0, none⟩), .agg (.int .i64 f :: .bool tn :: .slice ua un.length uc :: cs).toArray] w fun x w' => x = .returned (.tuple #[]) ∧ ∃ vP' vF', RunTo base rb day fx fa fl fc w w' vP vF (acq day fx t f tn un s) vP' vF'
theorem ex_one {w : World} {X : List Nat} {l : List Ex} {e : Ex} {a : Option Addr} {len cap : Nat} (h : SlE w X l a len cap) (hl : l = [e]) : len = 1 ∧ ∃ b o op no nm aa al ac, a = some ⟨b, o, none⟩ ∧ b ∉ X ∧ RepE w X e [.int .i64 op, .int .i64 no, .string nm, .slice aa al ac] ∧ w.cell? ⟨b, o, none⟩ = some (.int .i64 op) ∧ w.cell? ⟨b, o + 1, none⟩ = some (.int .i64 no) ∧ w.cell? ⟨b, o + 2, none⟩ = some (.string nm) ∧ w.cell? ⟨b, o + 3, none⟩ = some (.slice aa al ac) := by
  have hlen : len = 1 := by have := h.slR.facts.1; rw [hl] at this; exact this.symm
  obtain ⟨b, o, x, cs, ha, -, hbX, hx, hRx, -, hc⟩ := h.slR.at 0 (by omega)
  rw [hl] at hx
  injection hx with hx
  subst hx
  have hR : RepE w X e cs := hRx
  obtain ⟨op, no, nm, args, aa, al, ac, -, e2, -, -, -, -⟩ := hR.inv
  subst e2
  have k : ∀ j, o + 0 * exK.sz + j = o + j := fun j => by omega
  exact ⟨hlen, b, o, op, no, nm, aa, al, ac, ha, hbX, hR, by rw [← Nat.add_zero o, ← k]; exact hc 0 _ rfl, by rw [← k]; exact hc 1 _ rfl, by rw [← k]; exact hc 2 _ rfl, by rw [← k]; exact hc 3 _ rfl⟩
theorem te_one {w : World} {X : List Nat} {l : List Te} {e : Te} {k : Nat} {a : Option Addr} {len cap : Nat} (h : SlT w X l a len cap) (hl : l[k]? = some e) : k < len ∧ ∃ b o op nm xa xl xc ta tl tc, a = some ⟨b, o, none⟩ ∧ b ∉ X ∧ RepT w X e [.int .i64 op, .string nm, .slice xa xl xc, .slice ta tl tc] ∧ w.cell? ⟨b, o + k * 4, none⟩ = some (.int .i64 op) ∧ w.cell? ⟨b, o + k * 4 + 1, none⟩ = some (.string nm) ∧ w.cell? ⟨b, o + k * 4 + 2, none⟩ = some (.slice xa xl xc) ∧ w.cell? ⟨b, o + k * 4 + 3, none⟩ = some (.slice ta tl tc) := by
  have h' : SlR teK w X l a len cap := h
  have hk : k < len := by have := h'.facts.1; have := (List.getElem?_eq_some_iff.1 hl).1; omega
  obtain ⟨b, o, x, cs, ha, -, hbX, hx, hRx, -, hc⟩ := h'.at k hk
  rw [hl] at hx
  injection hx with hx
  subst hx
  have hR : RepT w X e cs := hRx
  obtain ⟨op, nm, exprs, terms, xa, xl, xc, ta, tl, tc, -, e2, -, -, -, -⟩ := hR.inv
  subst e2
  exact ⟨hk, b, o, op, nm, xa, xl, xc, ta, tl, tc, ha, hbX, hR, hc 0 _ rfl, hc 1 _ rfl, hc 2 _ rfl, hc 3 _ rfl⟩
/-- What is read in a block that is not written. -/
theorem RunTo.of {base rb : Nat} {day : Int} {fx : List Fx} {fa : Option Addr} {fl fc : Nat} {w w' : World} {s s' : RS} {vP vF : Value} (hJ : RunJ base rb day fx fa fl fc w s vP vF) (h : Sep w' (famR base rb day fx fa fl fc s' vP vF)) (hf : Fr (X3 rb vP vF) w w') : RunTo base rb day fx fa fl fc w w' vP vF s' vP vF :=
  ⟨⟨h⟩, hf, fun b hb => ⟨.inl hb, Nat.lt_of_lt_of_le (hJ.lt b hb) hf.size⟩⟩
theorem Fr.setNew {X : List Nat} {w w' : World} (h : Fr X w w') {p : Addr} (hp : w.heap.size ≤ p.block) (v : Value) : Fr X w (w'.setCell p v) :=
  have b : Below w'.heap.size w' w' := Below.refl _ _
  have k : Fr [p.block] w' (w'.setCell p v) := Fr.setCell w' (by simp) v
  ⟨k.os.trans h.os, k.tape.trans h.tape, k.output.trans h.output, h.kept.setNew hp v⟩
theorem evalX_i64 {day : Int} {fx : List Fx} (hd : I64 day) (hf : ∀ f ∈ fx, I64 f.val) {w : World} {X : List Nat} {e : Ex} {cs : List Value} (h : RepE w X e cs) : I64 (evalX day fx e).N := by
  unfold evalX
  split
  · exact i64_0
  · exact eval_i64 hd hf e.rk e (Nat.le_refl _) (RepE.nums e.rk e (Nat.le_refl _) cs h)
theorem fit_i64 (z : Int) : I64 (fitN (fitI z)) := by
  have := i64_fit z
  cases h : fitI z with
  | none => exact i64_0
  | some v => exact this v h
section
variable {A : Te → Int → Bool → List Ex → RS → RS} {t : Te} {f : Int} {tn : Bool} {un : List Ex} {s : RS} {V : Vl} {n : Int}
theorem waitW_brk : waitW A .brk t f tn un s = { s with bad := true } := by unfold waitW; exact if_pos rfl
theorem waitW_mul (h : t.op = 6) : waitW A (.num n) t f tn un s = A (t0 t) (fitN (fitI (f * n))) tn un { s with bad := !(fitB (fitI (f * n))) } := by
  unfold waitW; rw [if_neg (by show ¬ ((1 : Int) = 3); omega), if_pos ⟨h, rfl⟩]; rfl
theorem waitW_when (h : t.op = 7) : waitW A (.tru true) t f tn un s = A (t0 t) f tn un s := by
  unfold waitW; rw [if_neg (by show ¬ ((2 : Int) = 3); omega), if_neg (by rintro ⟨h1, -⟩; omega), if_pos ⟨h, rfl⟩]
theorem waitW_part (h1 : V.K ≠ 3) (h2 : t.op = 6 → V.K ≠ 1) (h3 : t.op = 7 → V.B = false) : waitW A V t f tn un s = { s with ps := s.ps ++ [⟨f, tn, un, t⟩] } := by
  unfold waitW; rw [if_neg h1, if_neg (fun h => h2 h.1 h.2), if_neg (fun h => by rw [h3 h.1] at h; cases h.2)]
end
end Go.Proofs.Ytmiinmndbkdjbaa
