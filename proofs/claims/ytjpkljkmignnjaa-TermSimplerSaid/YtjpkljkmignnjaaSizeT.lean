/- The contracts of sizeTerm and Size; condition: the term is less than 1000 deep. -/
import Derived.Test.YtjpkljkmignnjaaSizeE
namespace Go.Proofs.Ytjpkljkmignnjaa
set_option linter.unusedVariables false
set_option linter.unusedSimpArgs false
open Go.RowKit
/-- So many nodes, so deep, as far as they are counted. -/
def St (X Y : Nat) (x d : Int) : Prop := x = min (X : Int) 1000 ∧ 0 ≤ d ∧ d ≤ 1000 ∧ (X < 1000 → d = Y)
theorem St.step {X Y en ek : Nat} {x d x' d' : Int} (h : St X Y x d) (h' : St en ek x' d') (hek : ek + 1 ≤ 1000) : St (X + en) (max Y (ek + 1)) (min (x + x') 1000) (min (max d (d' + 1)) 1000) := by
  obtain ⟨h1, h2, h3, h4⟩ := h
  obtain ⟨g1, g2, g3, g4⟩ := h'
  subst h1 g1
  refine ⟨by omega, by omega, by omega, fun hh => ?_⟩
  have q1 := h4 (by omega)
  have q2 := g4 (by omega)
  omega
theorem St.bd {X Y : Nat} {x d : Int} (h : St X Y x d) : 0 ≤ x ∧ x ≤ 1000 ∧ 0 ≤ d ∧ d ≤ 1000 := by
  obtain ⟨h1, h2, h3, _⟩ := h
  subst h1
  omega
theorem SizeIs.st {X Y : Nat} {e : Ending} (h : SizeIs X Y e) : ∃ x d, e = .returned (.agg #[.int .i64 x, .int .i64 d]) ∧ St X Y x d := by
  obtain ⟨d, rfl, h2, h3, h4⟩ := h
  exact ⟨_, d, rfl, rfl, h2, h3, h4⟩
theorem St.is {X Y : Nat} {x d : Int} (h : St X Y x d) : SizeIs X Y (.returned (.agg #[.int .i64 x, .int .i64 d])) := by
  obtain ⟨rfl, h2, h3, h4⟩ := h
  exact ⟨d, rfl, h2, h3, h4⟩
theorem Te.rk_pos (e : Te) : 1 ≤ e.rk := by cases e; simp only [Te.rk]; omega
theorem Te.nd_pos (e : Te) : 1 ≤ e.nd := by cases e; simp only [Te.nd]; omega
set_option maxRecDepth 100000 in
set_option maxHeartbeats 2000000 in
theorem sizeTerm_any : ∀ (r : Nat) (e : Te), e.rk ≤ r → ∀ (cs : List Value) (at_ : Int) (w : World), RepT w [] e cs → 0 ≤ at_ → at_ + e.rk ≤ 1000 →
    Calls Try.prog 27 #[.agg cs.toArray, .int .i64 at_] w fun x w' => SizeIs e.nd e.rk x ∧ Below w.heap.size w w' := by
  intro r
  induction r with
  | zero => intro e h; have := e.rk_pos; omega
  | succ r ih =>
    intro e hr cs at_ w hR h0 h1
    have IH := Lib.hid ih
    clear ih
    obtain ⟨op, nm, exprs, terms, a, len, cap, a2, len2, cap2, rfl, rfl, i1, i3, hS, hS2⟩ := hR.inv
    have HS := Lib.hid hS
    have HS2 := Lib.hid hS2
    obtain ⟨f1, f2, f3⟩ := hS.facts
    obtain ⟨f4, f5, f6⟩ := hS2.facts
    have HL := Lib.hid f1
    have HL2 := Lib.hid f4
    have HR := Lib.hid hr
    have HND := Lib.hid (show (Te.mk op nm exprs terms).nd = 1 + Ex.nd.go exprs + Te.nd.go terms from rfl)
    have HRK := Lib.hid (show (Te.mk op nm exprs terms).rk = 1 + max (Ex.rk.go exprs) (Te.rk.go terms) from rfl)
    have HEL := Lib.hid (fun (k : Nat) (e : Ex) (h : exprs[k]? = some e) => Ex.rkx_lt (op := op) (nm := nm) (l := terms) h)
    have HTL := Lib.hid (fun (k : Nat) (e : Te) (h : terms[k]? = some e) => Te.rk_lt (op := op) (nm := nm) (x := exprs) h)
    generalize (Te.mk op nm exprs terms).nd = ND at *
    generalize (Te.mk op nm exprs terms).rk = RK at *
    have T := Lib.hid (((((Below.refl _ w).alloc (Nat.le_refl _) (.cells #[.int .i64 op, .string nm, .slice a len cap, .slice a2 len2 cap2] 33)).alloc (by simp) (.cells #[.int .i64 0, .int .i64 0] 57)).alloc (by simp; omega) (.cells #[.int .i64 1, .int .i64 1] 57)) : Below w.heap.size w _)
    have T0 := Lib.hid (((Mem.Blk.new w 33 #[.int .i64 op, .string nm, .slice a len cap, .slice a2 len2 cap2]).alloc (.cells #[.int .i64 0, .int .i64 0] 57)).alloc (.cells #[.int .i64 1, .int .i64 1] 57))
    have TB := Lib.hid (Mem.Blk.new ((w.alloc (.cells #[.int .i64 op, .string nm, .slice a len cap, .slice a2 len2 cap2] 33)).alloc (.cells #[.int .i64 0, .int .i64 0] 57)) 57 #[.int .i64 1, .int .i64 1])
    have TR := Lib.hid ((Mem.Blk.new (w.alloc (.cells #[.int .i64 op, .string nm, .slice a len cap, .slice a2 len2 cap2] 33)) 57 #[.int .i64 0, .int .i64 0]).alloc (.cells #[.int .i64 1, .int .i64 1] 57))
    have e1 : (w.alloc (.cells #[.int .i64 op, .string nm, .slice a len cap, .slice a2 len2 cap2] 33)).heap.size = w.heap.size + 1 := by simp
    have e2 : ((w.alloc (.cells #[.int .i64 op, .string nm, .slice a len cap, .slice a2 len2 cap2] 33)).alloc (.cells #[.int .i64 0, .int .i64 0] 57)).heap.size = w.heap.size + 1 + 1 := by simp
    rw [e1] at TR
    rw [e2] at TB
    have hat1 := Lib.hid h1
    clear i1 i3 f1 f4 hr hR hS hS2 e1 e2 h1
    go_enter Try.func27, Try.ntmps27
    go_wp2_with fail
    go_loopw [14] (fun i wr => ∃ (k : Nat) (x d : Int), i = .int .i64 (k : Nat) ∧ k ≤ len ∧ Hid (Below w.heap.size w wr) ∧ Hid (Mem.Blk wr w.heap.size 33 #[.int .i64 op, .string nm, .slice a len cap, .slice a2 len2 cap2]) ∧ Hid (Mem.Blk wr (w.heap.size + 1) 57 #[.int .i64 0, .int .i64 0]) ∧
      Hid (Mem.Blk wr (w.heap.size + 1 + 1) 57 #[.int .i64 x, .int .i64 d]) ∧ Hid (St (1 + Ex.nd.go (exprs.take k)) (1 + Ex.rk.go (exprs.take k)) x d)) (fun i _ => len - (intOf i).toNat)
    case atStart => exact ⟨0, 1, 1, rfl, Nat.zero_le _, T.out, T0.out, TR.out, TB.out, ⟨rfl, by omega, by omega, fun _ => rfl⟩⟩
    case round =>
      obtain ⟨k, x, d, rfl, hk, HW, H0, HA, HB, HD⟩ := hrel
      obtain ⟨p1, p2, p3, p4⟩ := HA.out.two
      obtain ⟨q1, q2, q3, q4⟩ := HB.out.two
      have hBlt := HB.out.lt
      have hAlt := HA.out.lt
      obtain ⟨x0, x1, d0, d1⟩ := HD.out.bd
      by_cases hlt : k < len
      · obtain ⟨b, o, op', n', nm', args', a', len', cap', rfl, hb, hbx, hle, j1, j2, j3, hS', g0, g1, g2, g3⟩ := (HS.out.kept (Kept.of_below HW.out [])).at k hlt
        have hel := HEL.out k _ hle
        have hat2 : at_ + 1 + (Ex.mk op' n' nm' args').rk ≤ 1000 := by have := hat1.out; omega
        have HN := Lib.hid (Ex.nd_take hle)
        have HK := Lib.hid (Ex.rk_take hle)
        have HIH := Lib.hid (fun W hW => sizeExpr_any (Ex.mk op' n' nm' args').rk (Ex.mk op' n' nm' args') (Nat.le_refl _) [.int .i64 op', .int .i64 n', .string nm', .slice a' len' cap'] (at_ + 1) W (RepE.mk' j1 j2 j3 (hS'.kept hW)) (by omega) hat2)
        have hek : Hid ((Ex.mk op' n' nm' args').rk + 1 ≤ 1000) := by show _ ≤ _; omega
        generalize (Ex.mk op' n' nm' args').nd = en at *
        generalize (Ex.mk op' n' nm' args').rk = ek at *
        have BA := Lib.hid (HA.out.alloc (.cells #[.int .i64 op', .int .i64 n', .string nm', .slice a' len' cap'] 38))
        have BB := Lib.hid (HB.out.alloc (.cells #[.int .i64 op', .int .i64 n', .string nm', .slice a' len' cap'] 38))
        have B0 := Lib.hid (H0.out.alloc (.cells #[.int .i64 op', .int .i64 n', .string nm', .slice a' len' cap'] 38))
        have hkp := Kept.alloc wr (.cells #[.int .i64 op', .int .i64 n', .string nm', .slice a' len' cap'] 38) []
        have hkd : Hid (Kept [] wr (wr.alloc (.cells #[.int .i64 op', .int .i64 n', .string nm', .slice a' len' cap'] 38)).drew) := ⟨hkp.1, hkp.2⟩
        have HW2 := Lib.hid (HW.out.alloc HW.out.size (.cells #[.int .i64 op', .int .i64 n', .string nm', .slice a' len' cap'] 38))
        have hwrap : IntKind.i64.wrap (at_ + 1) = at_ + 1 := IntWalk.i64_in _ (by omega)
        have HSS := Lib.hid (fun x' d' (h : St en ek x' d') => HD.out.step h hek.out)
        clear HEL hel hS' HS hkp T T0 TB TR IH HTL HS2 HND HRK HL HL2 HR
        go_wp2_with fail
        go_region_with (first
          | (go_at_call 31
             refine (HIH.out _ hkd.out).mono ?_
             rintro y w1 ⟨hy, b1⟩
             obtain ⟨x', d', rfl, hst⟩ := hy.st
             obtain ⟨y0, y1, z0, z1⟩ := hst.bd
             have hst2 := Lib.hid hst
             obtain ⟨r1, r2, r3, r4⟩ := (BB.out.drew.below b1).two)
          | (go_at_call 43
             refine (with_any _ _ _ _ _ ⟨x0, x1⟩ ⟨d0, d1⟩ ⟨y0, y1⟩ ⟨z0, z1⟩).mono ?_
             rintro y w2 ⟨rfl, b2⟩
             obtain ⟨r5, r6, r7, r8⟩ := ((BB.out.drew.below b1).below b2).two))
        all_goals
          have W3 := Lib.hid ((HW2.out.drew.trans (b1.mono HW2.out.size)).trans (b2.mono (HW2.out.drew.trans (b1.mono HW2.out.size)).size))
          have A3 := Lib.hid ((BA.out.drew.below b1).below b2)
          have B3 := Lib.hid ((BB.out.drew.below b1).below b2)
          have C3 := Lib.hid ((B0.out.drew.below b1).below b2)
          have S3 : Hid (St (1 + Ex.nd.go (exprs.take (k + 1))) (1 + Ex.rk.go (exprs.take (k + 1))) (min (x + x') 1000) (min (max d (d' + 1)) 1000)) := by
            have h := HSS.out _ _ hst2.out
            show St _ _ _ _
            rw [HN.out, HK.out, ← Nat.add_assoc, show 1 + max (Ex.rk.go (exprs.take k)) ek = max (1 + Ex.rk.go (exprs.take k)) (ek + 1) by omega]
            exact h
          clear b1 b2 BA BB B0 HIH hst hst2 HSS
          go_wp2
          go_roundw
          case rel => exact ⟨k + 1, _, _, by go_num, by omega, (W3.out.setCell (by simp; omega) _).setCell (by simp; omega) _, (C3.out.far (by simp; omega) _).far (by simp; omega) _, (A3.out.far (by simp) _).far (by simp) _, (B3.out.set_ 0 _).set_ 1 _, S3.out⟩
          case measure => simp [intOf]; omega
      · have hke : k = len := by omega
        subst hke
        have etk : exprs.take k = exprs := List.take_of_length_le (by rw [HL.out]; exact Nat.le_refl _)
        have HD0 : Hid (St (1 + Ex.nd.go exprs) (1 + Ex.rk.go exprs) x d) := by have h := HD.out; rw [etk] at h; exact h
        have c3 : wr.cell? ⟨w.heap.size, 3, none⟩ = some (.slice a2 len2 cap2) := H0.out.cell 3
        clear hlt etk HD HEL T T0 TB TR HL HS p1 p2 p3 p4 q1 q2 q3 q4 x0 x1 d0 d1
        have W1 := Lib.hid HW.out
        go_wp2_with fail
        clear c3 hBlt hAlt
        go_loopw [28] (fun i wr => ∃ (k : Nat) (x d : Int), i = .int .i64 (k : Nat) ∧ k ≤ len2 ∧ Hid (Below w.heap.size w wr) ∧ Hid (Mem.Blk wr (w.heap.size + 1) 57 #[.int .i64 0, .int .i64 0]) ∧
          Hid (Mem.Blk wr (w.heap.size + 1 + 1) 57 #[.int .i64 x, .int .i64 d]) ∧ Hid (St (1 + Ex.nd.go exprs + Te.nd.go (terms.take k)) (1 + max (Ex.rk.go exprs) (Te.rk.go (terms.take k))) x d)) (fun i _ => len2 - (intOf i).toNat)
        case atStart => exact ⟨0, x, d, rfl, Nat.zero_le _, W1.out, HA.out, HB.out, by have h := HD0.out; show St _ _ _ _; simpa [Te.nd.go, Te.rk.go] using h⟩
        case round =>
          clear HW HA HB HD0 H0 W1
          obtain ⟨k2, x, d, rfl, hk2, HW, HA, HB, HD⟩ := hrel
          obtain ⟨p1, p2, p3, p4⟩ := HA.out.two
          obtain ⟨q1, q2, q3, q4⟩ := HB.out.two
          have hBlt := HB.out.lt
          have hAlt := HA.out.lt
          obtain ⟨x0, x1, d0, d1⟩ := HD.out.bd
          by_cases hlt : k2 < len2
          · obtain ⟨b, o, op', nm', ex', te', a', len', cap', a3, len3, cap3, rfl, hb, hbx, hle, j1, j3, hS', hS3, g0, g1, g2, g3⟩ := (HS2.out.kept (Kept.of_below HW.out [])).at k2 hlt
            have hel := HTL.out k2 _ hle
            have hat : at_ < 1000 := by have := hat1.out; have := Te.rk_pos (Te.mk op' nm' ex' te'); omega
            have hat2 : at_ + 1 + (Te.mk op' nm' ex' te').rk ≤ 1000 := by have := hat1.out; omega
            by_cases hbig : 1000 ≤ x
            · have FIN : Hid (SizeIs ND RK (.returned (.agg #[.int .i64 1000, .int .i64 1000]))) := by
                have hm : 1000 ≤ ND := by rw [HND.out]; have := Te.nd_le terms k2; have := HD.out.1; omega
                show SizeIs ND RK _
                exact ⟨1000, by rw [show min (ND : Int) 1000 = 1000 by omega], by omega, by omega, fun h => by omega⟩
              clear HD
              go_wp2
              refine bodyPost_ret (v := .agg #[.int .i64 1000, .int .i64 1000]) (by simp [results, Try.results27, go_sem, p1, p2, hAlt]) rfl ⟨FIN.out, ?_⟩
              exact ((HW.out.setCell (by simp) _).setCell (by simp) _).alloc (by simpa [World.setCell] using HW.out.size) _
            · have hmm : x < 1000 := by omega
              have HN := Lib.hid (Te.nd_take hle)
              have HK := Lib.hid (Te.rk_take hle)
              have HIH := Lib.hid (fun W hW => IH.out (Te.mk op' nm' ex' te') (by have := HR.out; omega) [.int .i64 op', .string nm', .slice a' len' cap', .slice a3 len3 cap3] (at_ + 1) W (RepT.mk' j1 j3 (hS'.kept hW) (hS3.kept hW)) (by omega) hat2)
              have hek : Hid ((Te.mk op' nm' ex' te').rk + 1 ≤ 1000) := by show _ ≤ _; omega
              generalize (Te.mk op' nm' ex' te').nd = en at *
              generalize (Te.mk op' nm' ex' te').rk = ek at *
              have BA := Lib.hid (HA.out.alloc (.cells #[.int .i64 op', .string nm', .slice a' len' cap', .slice a3 len3 cap3] 33))
              have BB := Lib.hid (HB.out.alloc (.cells #[.int .i64 op', .string nm', .slice a' len' cap', .slice a3 len3 cap3] 33))
              have hkp := Kept.alloc wr (.cells #[.int .i64 op', .string nm', .slice a' len' cap', .slice a3 len3 cap3] 33) []
              have hkd : Hid (Kept [] wr (wr.alloc (.cells #[.int .i64 op', .string nm', .slice a' len' cap', .slice a3 len3 cap3] 33)).drew) := ⟨hkp.1, hkp.2⟩
              have HW2 := Lib.hid (HW.out.alloc HW.out.size (.cells #[.int .i64 op', .string nm', .slice a' len' cap', .slice a3 len3 cap3] 33))
              have hwrap : IntKind.i64.wrap (at_ + 1) = at_ + 1 := IntWalk.i64_in _ (by omega)
              have HSS := Lib.hid (fun x' d' (h : St en ek x' d') => HD.out.step h hek.out)
              clear HTL hel hS' hS3 HS2 hkp IH HND HRK HL2 HR hbig
              go_wp2_with fail
              go_region_with (first
                | (go_at_call 27
                   refine (HIH.out _ hkd.out).mono ?_
                   rintro y w1 ⟨hy, b1⟩
                   obtain ⟨x', d', rfl, hst⟩ := hy.st
                   obtain ⟨y0, y1, z0, z1⟩ := hst.bd
                   have hst2 := Lib.hid hst
                   obtain ⟨r1, r2, r3, r4⟩ := (BB.out.drew.below b1).two)
                | (go_at_call 43
                   refine (with_any _ _ _ _ _ ⟨x0, x1⟩ ⟨d0, d1⟩ ⟨y0, y1⟩ ⟨z0, z1⟩).mono ?_
                   rintro y w2 ⟨rfl, b2⟩
                   obtain ⟨r5, r6, r7, r8⟩ := ((BB.out.drew.below b1).below b2).two))
              all_goals
                have W3 := Lib.hid ((HW2.out.drew.trans (b1.mono HW2.out.size)).trans (b2.mono (HW2.out.drew.trans (b1.mono HW2.out.size)).size))
                have A3 := Lib.hid ((BA.out.drew.below b1).below b2)
                have B3 := Lib.hid ((BB.out.drew.below b1).below b2)
                have S3 : Hid (St (1 + Ex.nd.go exprs + Te.nd.go (terms.take (k2 + 1))) (1 + max (Ex.rk.go exprs) (Te.rk.go (terms.take (k2 + 1)))) (min (x + x') 1000) (min (max d (d' + 1)) 1000)) := by
                  have h := HSS.out _ _ hst2.out
                  show St _ _ _ _
                  rw [HN.out, HK.out, ← Nat.add_assoc, show 1 + max (Ex.rk.go exprs) (max (Te.rk.go (terms.take k2)) ek) = max (1 + max (Ex.rk.go exprs) (Te.rk.go (terms.take k2))) (ek + 1) by omega]
                  exact h
                clear b1 b2 BA BB HIH hst hst2 HSS
                go_wp2
                go_roundw
                case rel => exact ⟨k2 + 1, _, _, by go_num, by omega, (W3.out.setCell (by simp; omega) _).setCell (by simp; omega) _, (A3.out.far (by simp) _).far (by simp) _, (B3.out.set_ 0 _).set_ 1 _, S3.out⟩
                case measure => simp [intOf]; omega
          · have hke : k2 = len2 := by omega
            subst hke
            have FIN : Hid (SizeIs ND RK (.returned (.agg #[.int .i64 x, .int .i64 d]))) := by
              have e : terms.take k2 = terms := List.take_of_length_le (by rw [HL2.out]; exact Nat.le_refl _)
              have hd := HD.out
              rw [e] at hd
              show SizeIs ND RK _
              rw [HND.out, HRK.out]
              exact hd.is
            clear HD hlt
            go_wp2
            refine bodyPost_ret (v := .agg #[.int .i64 x, .int .i64 d]) (by simp [results, Try.results27, go_sem, p1, p2, hAlt]) rfl ⟨FIN.out, ?_⟩
            exact (HW.out.setCell (by simp) _).setCell (by simp) _
end Go.Proofs.Ytjpkljkmignnjaa
