/- A part of the proof: SizeT, BuiltT, Row, Ap, Gro, Grow, Sep, Bld, Eqv, one behind another. -/
import Derived.Test.YtmiinmndbkdjbaaGreatMTA
import Derived.Test.YtmiinmndbkdjbaaGreatProg
import Derived.Test.YtmiinmndbkdjbaaGreatChecked
import Derived.WalkSpells
import Derived.LoopTactic
import Derived.Deep.RegionHeld3
/- The contracts of sizeTerm and Size; condition: the term is less than 1000 deep. -/
namespace Go.Proofs.YtmiinmndbkdjbaaGreat
set_option linter.unusedVariables false
set_option linter.unusedSimpArgs false
open Go.RowKit
/-- So many nodes, so deep, as far as they are counted. -/
def St (X Y : Nat) (x d : Int) : Prop := x = min (X : Int) 1000 ∧ 0 ≤ d ∧ d ≤ 1000 ∧ (X < 1000 → d = Y)
theorem St.step {X Y en ek : Nat} {x d x' d' : Int} (h : St X Y x d) (h' : St en ek x' d') (hek : ek + 1 ≤ 1000) : St (X + en) (max Y (ek + 1)) (min (x + x') 1000) (min (max d (d' + 1)) 1000) := by
  obtain ⟨h1, h2, h3, h4⟩ := h
  obtain ⟨g1, g2, g3, g4⟩ := h'
  subst h1 g1
  refine ⟨by omega, by omega, by omega, fun hh => ?_⟩
  have q1 := h4 (by omega)
  have q2 := g4 (by omega)
  omega
theorem St.bd {X Y : Nat} {x d : Int} (h : St X Y x d) : 0 ≤ x ∧ x ≤ 1000 ∧ 0 ≤ d ∧ d ≤ 1000 := by
  obtain ⟨h1, h2, h3, _⟩ := h
  subst h1
  omega
theorem SizeIs.st {X Y : Nat} {e : Ending} (h : SizeIs X Y e) : ∃ x d, e = .returned (.agg #[.int .i64 x, .int .i64 d]) ∧ St X Y x d := by
  obtain ⟨d, rfl, h2, h3, h4⟩ := h
  exact ⟨_, d, rfl, rfl, h2, h3, h4⟩
theorem St.is {X Y : Nat} {x d : Int} (h : St X Y x d) : SizeIs X Y (.returned (.agg #[.int .i64 x, .int .i64 d])) := by
  obtain ⟨rfl, h2, h3, h4⟩ := h
  exact ⟨d, rfl, h2, h3, h4⟩
theorem Te.rk_pos (e : Te) : 1 ≤ e.rk := by cases e; simp only [Te.rk]; omega
theorem Te.nd_pos (e : Te) : 1 ≤ e.nd := by cases e; simp only [Te.nd]; omega
set_option maxRecDepth 100000 in
set_option maxHeartbeats 2000000 in
theorem sizeTerm_any : ∀ (r : Nat) (e : Te), e.rk ≤ r → ∀ (cs : List Value) (at_ : Int) (w : World), RepT w [] e cs → 0 ≤ at_ → at_ + e.rk ≤ 1000 →
    Calls Tryz.prog 80 #[.agg cs.toArray, .int .i64 at_] w fun x w' => SizeIs e.nd e.rk x ∧ Below w.heap.size w w' := by
  intro r
  induction r with
  | zero => intro e h; have := e.rk_pos; omega
  | succ r ih =>
    intro e hr cs at_ w hR h0 h1
    have IH := Lib.hid ih
    clear ih
    obtain ⟨op, nm, exprs, terms, a, len, cap, a2, len2, cap2, rfl, rfl, i1, i3, hS, hS2⟩ := hR.inv
    have HS := Lib.hid hS
    have HS2 := Lib.hid hS2
    obtain ⟨f1, f2, f3⟩ := hS.facts
    obtain ⟨f4, f5, f6⟩ := hS2.facts
    have HL := Lib.hid f1
    have HL2 := Lib.hid f4
    have HR := Lib.hid hr
    have HND := Lib.hid (show (Te.mk op nm exprs terms).nd = 1 + Ex.nd.go exprs + Te.nd.go terms from rfl)
    have HRK := Lib.hid (show (Te.mk op nm exprs terms).rk = 1 + max (Ex.rk.go exprs) (Te.rk.go terms) from rfl)
    have HEL := Lib.hid (fun (k : Nat) (e : Ex) (h : exprs[k]? = some e) => Ex.rkx_lt (op := op) (nm := nm) (l := terms) h)
    have HTL := Lib.hid (fun (k : Nat) (e : Te) (h : terms[k]? = some e) => Te.rk_lt (op := op) (nm := nm) (x := exprs) h)
    generalize (Te.mk op nm exprs terms).nd = ND at *
    generalize (Te.mk op nm exprs terms).rk = RK at *
    have T := Lib.hid (((((Below.refl _ w).alloc (Nat.le_refl _) (.cells #[.int .i64 op, .string nm, .slice a len cap, .slice a2 len2 cap2] 41)).alloc (by simp) (.cells #[.int .i64 0, .int .i64 0] 153)).alloc (by simp; omega) (.cells #[.int .i64 1, .int .i64 1] 153)) : Below w.heap.size w _)
    have T0 := Lib.hid (((Mem.Blk.new w 41 #[.int .i64 op, .string nm, .slice a len cap, .slice a2 len2 cap2]).alloc (.cells #[.int .i64 0, .int .i64 0] 153)).alloc (.cells #[.int .i64 1, .int .i64 1] 153))
    have TB := Lib.hid (Mem.Blk.new ((w.alloc (.cells #[.int .i64 op, .string nm, .slice a len cap, .slice a2 len2 cap2] 41)).alloc (.cells #[.int .i64 0, .int .i64 0] 153)) 153 #[.int .i64 1, .int .i64 1])
    have TR := Lib.hid ((Mem.Blk.new (w.alloc (.cells #[.int .i64 op, .string nm, .slice a len cap, .slice a2 len2 cap2] 41)) 153 #[.int .i64 0, .int .i64 0]).alloc (.cells #[.int .i64 1, .int .i64 1] 153))
    have e1 : (w.alloc (.cells #[.int .i64 op, .string nm, .slice a len cap, .slice a2 len2 cap2] 41)).heap.size = w.heap.size + 1 := by simp
    have e2 : ((w.alloc (.cells #[.int .i64 op, .string nm, .slice a len cap, .slice a2 len2 cap2] 41)).alloc (.cells #[.int .i64 0, .int .i64 0] 153)).heap.size = w.heap.size + 1 + 1 := by simp
    rw [e1] at TR
    rw [e2] at TB
    have hat1 := Lib.hid h1
    clear i1 i3 f1 f4 hr hR hS hS2 e1 e2 h1
    go_enter Tryz.func80, Tryz.ntmps80
    go_wp2_with fail
    go_loopw [14] (fun i wr => ∃ (k : Nat) (x d : Int), i = .int .i64 (k : Nat) ∧ k ≤ len ∧ Hid (Below w.heap.size w wr) ∧ Hid (Mem.Blk wr w.heap.size 41 #[.int .i64 op, .string nm, .slice a len cap, .slice a2 len2 cap2]) ∧ Hid (Mem.Blk wr (w.heap.size + 1) 153 #[.int .i64 0, .int .i64 0]) ∧
      Hid (Mem.Blk wr (w.heap.size + 1 + 1) 153 #[.int .i64 x, .int .i64 d]) ∧ Hid (St (1 + Ex.nd.go (exprs.take k)) (1 + Ex.rk.go (exprs.take k)) x d)) (fun i _ => len - (intOf i).toNat)
    case atStart => exact ⟨0, 1, 1, rfl, Nat.zero_le _, T.out, T0.out, TR.out, TB.out, ⟨rfl, by omega, by omega, fun _ => rfl⟩⟩
    case round =>
      obtain ⟨k, x, d, rfl, hk, HW, H0, HA, HB, HD⟩ := hrel
      obtain ⟨p1, p2, p3, p4⟩ := HA.out.two
      obtain ⟨q1, q2, q3, q4⟩ := HB.out.two
      have hBlt := HB.out.lt
      have hAlt := HA.out.lt
      obtain ⟨x0, x1, d0, d1⟩ := HD.out.bd
      by_cases hlt : k < len
      · obtain ⟨b, o, op', n', nm', args', a', len', cap', rfl, hb, hbx, hle, j1, j2, j3, hS', g0, g1, g2, g3⟩ := (HS.out.kept (Kept.of_below HW.out [])).at k hlt
        have hel := HEL.out k _ hle
        have hat2 : at_ + 1 + (Ex.mk op' n' nm' args').rk ≤ 1000 := by have := hat1.out; omega
        have HN := Lib.hid (Ex.nd_take hle)
        have HK := Lib.hid (Ex.rk_take hle)
        have HIH := Lib.hid (fun W hW => sizeExpr_any (Ex.mk op' n' nm' args').rk (Ex.mk op' n' nm' args') (Nat.le_refl _) [.int .i64 op', .int .i64 n', .string nm', .slice a' len' cap'] (at_ + 1) W (RepE.mk' j1 j2 j3 (hS'.kept hW)) (by omega) hat2)
        have hek : Hid ((Ex.mk op' n' nm' args').rk + 1 ≤ 1000) := by show _ ≤ _; omega
        generalize (Ex.mk op' n' nm' args').nd = en at *
        generalize (Ex.mk op' n' nm' args').rk = ek at *
        have BA := Lib.hid (HA.out.alloc (.cells #[.int .i64 op', .int .i64 n', .string nm', .slice a' len' cap'] 74))
        have BB := Lib.hid (HB.out.alloc (.cells #[.int .i64 op', .int .i64 n', .string nm', .slice a' len' cap'] 74))
        have B0 := Lib.hid (H0.out.alloc (.cells #[.int .i64 op', .int .i64 n', .string nm', .slice a' len' cap'] 74))
        have hkp := Kept.alloc wr (.cells #[.int .i64 op', .int .i64 n', .string nm', .slice a' len' cap'] 74) []
        have hkd : Hid (Kept [] wr (wr.alloc (.cells #[.int .i64 op', .int .i64 n', .string nm', .slice a' len' cap'] 74)).drew) := ⟨hkp.1, hkp.2⟩
        have HW2 := Lib.hid (HW.out.alloc HW.out.size (.cells #[.int .i64 op', .int .i64 n', .string nm', .slice a' len' cap'] 74))
        have hwrap : IntKind.i64.wrap (at_ + 1) = at_ + 1 := IntWalk.i64_in _ (by omega)
        have HSS := Lib.hid (fun x' d' (h : St en ek x' d') => HD.out.step h hek.out)
        clear HEL hel hS' HS hkp T T0 TB TR IH HTL HS2 HND HRK HL HL2 HR
        go_wp2_with fail
        go_region_with (first
          | (go_at_call 100
             refine (HIH.out _ hkd.out).mono ?_
             rintro y w1 ⟨hy, b1⟩
             obtain ⟨x', d', rfl, hst⟩ := hy.st
             obtain ⟨y0, y1, z0, z1⟩ := hst.bd
             have hst2 := Lib.hid hst
             obtain ⟨r1, r2, r3, r4⟩ := (BB.out.drew.below b1).two)
          | (go_at_call 99
             refine (with_any _ _ _ _ _ ⟨x0, x1⟩ ⟨d0, d1⟩ ⟨y0, y1⟩ ⟨z0, z1⟩).mono ?_
             rintro y w2 ⟨rfl, b2⟩
             obtain ⟨r5, r6, r7, r8⟩ := ((BB.out.drew.below b1).below b2).two))
        all_goals
          have W3 := Lib.hid ((HW2.out.drew.trans (b1.mono HW2.out.size)).trans (b2.mono (HW2.out.drew.trans (b1.mono HW2.out.size)).size))
          have A3 := Lib.hid ((BA.out.drew.below b1).below b2)
          have B3 := Lib.hid ((BB.out.drew.below b1).below b2)
          have C3 := Lib.hid ((B0.out.drew.below b1).below b2)
          have S3 : Hid (St (1 + Ex.nd.go (exprs.take (k + 1))) (1 + Ex.rk.go (exprs.take (k + 1))) (min (x + x') 1000) (min (max d (d' + 1)) 1000)) := by
            have h := HSS.out _ _ hst2.out
            show St _ _ _ _
            rw [HN.out, HK.out, ← Nat.add_assoc, show 1 + max (Ex.rk.go (exprs.take k)) ek = max (1 + Ex.rk.go (exprs.take k)) (ek + 1) by omega]
            exact h
          clear b1 b2 BA BB B0 HIH hst hst2 HSS
          go_wp2
          go_roundw
          case rel => exact ⟨k + 1, _, _, by go_num, by omega, (W3.out.setCell (by simp; omega) _).setCell (by simp; omega) _, (C3.out.far (by simp; omega) _).far (by simp; omega) _, (A3.out.far (by simp) _).far (by simp) _, (B3.out.set_ 0 _).set_ 1 _, S3.out⟩
          case measure => simp [intOf]; omega
      · have hke : k = len := by omega
        subst hke
        have etk : exprs.take k = exprs := List.take_of_length_le (by rw [HL.out]; exact Nat.le_refl _)
        have HD0 : Hid (St (1 + Ex.nd.go exprs) (1 + Ex.rk.go exprs) x d) := by have h := HD.out; rw [etk] at h; exact h
        have c3 : wr.cell? ⟨w.heap.size, 3, none⟩ = some (.slice a2 len2 cap2) := H0.out.cell 3
        clear hlt etk HD HEL T T0 TB TR HL HS p1 p2 p3 p4 q1 q2 q3 q4 x0 x1 d0 d1
        have W1 := Lib.hid HW.out
        go_wp2_with fail
        clear c3 hBlt hAlt
        go_loopw [28] (fun i wr => ∃ (k : Nat) (x d : Int), i = .int .i64 (k : Nat) ∧ k ≤ len2 ∧ Hid (Below w.heap.size w wr) ∧ Hid (Mem.Blk wr (w.heap.size + 1) 153 #[.int .i64 0, .int .i64 0]) ∧
          Hid (Mem.Blk wr (w.heap.size + 1 + 1) 153 #[.int .i64 x, .int .i64 d]) ∧ Hid (St (1 + Ex.nd.go exprs + Te.nd.go (terms.take k)) (1 + max (Ex.rk.go exprs) (Te.rk.go (terms.take k))) x d)) (fun i _ => len2 - (intOf i).toNat)
        case atStart => exact ⟨0, x, d, rfl, Nat.zero_le _, W1.out, HA.out, HB.out, by have h := HD0.out; show St _ _ _ _; simpa [Te.nd.go, Te.rk.go] using h⟩
        case round =>
          clear HW HA HB HD0 H0 W1
          obtain ⟨k2, x, d, rfl, hk2, HW, HA, HB, HD⟩ := hrel
          obtain ⟨p1, p2, p3, p4⟩ := HA.out.two
          obtain ⟨q1, q2, q3, q4⟩ := HB.out.two
          have hBlt := HB.out.lt
          have hAlt := HA.out.lt
          obtain ⟨x0, x1, d0, d1⟩ := HD.out.bd
          by_cases hlt : k2 < len2
          · obtain ⟨b, o, op', nm', ex', te', a', len', cap', a3, len3, cap3, rfl, hb, hbx, hle, j1, j3, hS', hS3, g0, g1, g2, g3⟩ := (HS2.out.kept (Kept.of_below HW.out [])).at k2 hlt
            have hel := HTL.out k2 _ hle
            have hat : at_ < 1000 := by have := hat1.out; have := Te.rk_pos (Te.mk op' nm' ex' te'); omega
            have hat2 : at_ + 1 + (Te.mk op' nm' ex' te').rk ≤ 1000 := by have := hat1.out; omega
            by_cases hbig : 1000 ≤ x
            · have FIN : Hid (SizeIs ND RK (.returned (.agg #[.int .i64 1000, .int .i64 1000]))) := by
                have hm : 1000 ≤ ND := by rw [HND.out]; have := Te.nd_le terms k2; have := HD.out.1; omega
                show SizeIs ND RK _
                exact ⟨1000, by rw [show min (ND : Int) 1000 = 1000 by omega], by omega, by omega, fun h => by omega⟩
              clear HD
              go_wp2
              refine bodyPost_ret (v := .agg #[.int .i64 1000, .int .i64 1000]) (by simp [results, Tryz.results80, go_sem, p1, p2, hAlt]) rfl ⟨FIN.out, ?_⟩
              exact ((HW.out.setCell (by simp) _).setCell (by simp) _).alloc (by simpa [World.setCell] using HW.out.size) _
            · have hmm : x < 1000 := by omega
              have HN := Lib.hid (Te.nd_take hle)
              have HK := Lib.hid (Te.rk_take hle)
              have HIH := Lib.hid (fun W hW => IH.out (Te.mk op' nm' ex' te') (by have := HR.out; omega) [.int .i64 op', .string nm', .slice a' len' cap', .slice a3 len3 cap3] (at_ + 1) W (RepT.mk' j1 j3 (hS'.kept hW) (hS3.kept hW)) (by omega) hat2)
              have hek : Hid ((Te.mk op' nm' ex' te').rk + 1 ≤ 1000) := by show _ ≤ _; omega
              generalize (Te.mk op' nm' ex' te').nd = en at *
              generalize (Te.mk op' nm' ex' te').rk = ek at *
              have BA := Lib.hid (HA.out.alloc (.cells #[.int .i64 op', .string nm', .slice a' len' cap', .slice a3 len3 cap3] 41))
              have BB := Lib.hid (HB.out.alloc (.cells #[.int .i64 op', .string nm', .slice a' len' cap', .slice a3 len3 cap3] 41))
              have hkp := Kept.alloc wr (.cells #[.int .i64 op', .string nm', .slice a' len' cap', .slice a3 len3 cap3] 41) []
              have hkd : Hid (Kept [] wr (wr.alloc (.cells #[.int .i64 op', .string nm', .slice a' len' cap', .slice a3 len3 cap3] 41)).drew) := ⟨hkp.1, hkp.2⟩
              have HW2 := Lib.hid (HW.out.alloc HW.out.size (.cells #[.int .i64 op', .string nm', .slice a' len' cap', .slice a3 len3 cap3] 41))
              have hwrap : IntKind.i64.wrap (at_ + 1) = at_ + 1 := IntWalk.i64_in _ (by omega)
              have HSS := Lib.hid (fun x' d' (h : St en ek x' d') => HD.out.step h hek.out)
              clear HTL hel hS' hS3 HS2 hkp IH HND HRK HL2 HR hbig
              go_wp2_with fail
              go_region_with (first
                | (go_at_call 80
                   refine (HIH.out _ hkd.out).mono ?_
                   rintro y w1 ⟨hy, b1⟩
                   obtain ⟨x', d', rfl, hst⟩ := hy.st
                   obtain ⟨y0, y1, z0, z1⟩ := hst.bd
                   have hst2 := Lib.hid hst
                   obtain ⟨r1, r2, r3, r4⟩ := (BB.out.drew.below b1).two)
                | (go_at_call 99
                   refine (with_any _ _ _ _ _ ⟨x0, x1⟩ ⟨d0, d1⟩ ⟨y0, y1⟩ ⟨z0, z1⟩).mono ?_
                   rintro y w2 ⟨rfl, b2⟩
                   obtain ⟨r5, r6, r7, r8⟩ := ((BB.out.drew.below b1).below b2).two))
              all_goals
                have W3 := Lib.hid ((HW2.out.drew.trans (b1.mono HW2.out.size)).trans (b2.mono (HW2.out.drew.trans (b1.mono HW2.out.size)).size))
                have A3 := Lib.hid ((BA.out.drew.below b1).below b2)
                have B3 := Lib.hid ((BB.out.drew.below b1).below b2)
                have S3 : Hid (St (1 + Ex.nd.go exprs + Te.nd.go (terms.take (k2 + 1))) (1 + max (Ex.rk.go exprs) (Te.rk.go (terms.take (k2 + 1)))) (min (x + x') 1000) (min (max d (d' + 1)) 1000)) := by
                  have h := HSS.out _ _ hst2.out
                  show St _ _ _ _
                  rw [HN.out, HK.out, ← Nat.add_assoc, show 1 + max (Ex.rk.go exprs) (max (Te.rk.go (terms.take k2)) ek) = max (1 + max (Ex.rk.go exprs) (Te.rk.go (terms.take k2))) (ek + 1) by omega]
                  exact h
                clear b1 b2 BA BB HIH hst hst2 HSS
                go_wp2
                go_roundw
                case rel => exact ⟨k2 + 1, _, _, by go_num, by omega, (W3.out.setCell (by simp; omega) _).setCell (by simp; omega) _, (A3.out.far (by simp) _).far (by simp) _, (B3.out.set_ 0 _).set_ 1 _, S3.out⟩
                case measure => simp [intOf]; omega
          · have hke : k2 = len2 := by omega
            subst hke
            have FIN : Hid (SizeIs ND RK (.returned (.agg #[.int .i64 x, .int .i64 d]))) := by
              have e : terms.take k2 = terms := List.take_of_length_le (by rw [HL2.out]; exact Nat.le_refl _)
              have hd := HD.out
              rw [e] at hd
              show SizeIs ND RK _
              rw [HND.out, HRK.out]
              exact hd.is
            clear HD hlt
            go_wp2
            refine bodyPost_ret (v := .agg #[.int .i64 x, .int .i64 d]) (by simp [results, Tryz.results80, go_sem, p1, p2, hAlt]) rfl ⟨FIN.out, ?_⟩
            exact (HW.out.setCell (by simp) _).setCell (by simp) _
end Go.Proofs.YtmiinmndbkdjbaaGreat

/- The contracts of built, RightExpr, Right; condition: the tree is less than 1000 deep. -/
namespace Go.Proofs.YtmiinmndbkdjbaaGreat
set_option linter.unusedVariables false
set_option linter.unusedSimpArgs false
open Go.RowKit
/-- Are a term's own cells as they must be? -/
def okT (op : Int) (nm : ByteArray) : Bool := !(op == 2 && !fre nm) && !(op != 2 && !nm.toList.isEmpty)
def bT : Te → Bool
  | .mk op nm x l => (arX op == (x.length : Nat)) && (arT op == (l.length : Nat)) && okT op nm && !(x.any fun e => !bE e) && go l
  where go : List Te → Bool
  | [] => true
  | e :: t => bT e && go t
theorem bT_go (l : List Te) : bT.go l = !l.any fun e => !bT e := by
  induction l with
  | nil => rfl
  | cons x t ih => simp only [bT.go, ih, List.any_cons, Bool.not_or, Bool.not_not]
set_option maxRecDepth 100000 in
set_option maxHeartbeats 4000000 in
theorem built_any : ∀ (r : Nat) (e : Te), e.rk ≤ r → ∀ (cs : List Value) (w : World), RepT w [] e cs →
    Calls Tryz.prog 82 #[.agg cs.toArray] w fun x w' => x = .returned (.bool (bT e)) ∧ Below w.heap.size w w' := by
  intro r
  induction r with
  | zero => intro e h; have := e.rk_pos; omega
  | succ r ih =>
    intro e hr cs w hR
    obtain ⟨op, nm, exprs, terms, a, len, cap, a2, len2, cap2, rfl, rfl, i1, i3, hS, hS2⟩ := hR.inv
    obtain ⟨f1, f2, f3⟩ := hS.facts
    obtain ⟨f4, f5, f6⟩ := hS2.facts
    have HW0 := Lib.hid ((Below.refl w.heap.size w).alloc (Nat.le_refl _) (.cells #[.int .i64 op, .string nm, .slice a len cap, .slice a2 len2 cap2] 41))
    have HC : Hid (∀ W, Below w.heap.size w W → Calls Tryz.prog 65 #[.slice a len cap, .func (.func 103) #[] #[]] W fun e w' => e = .returned (.bool (exprs.any fun e => !bE e)) ∧ Below W.heap.size W w') := by
      intro W hW
      refine containsE_any 103 _ exprs a len cap W (enters_of Tryz.func103 (by kernel_rfl) rfl) (hS.kept (Kept.of_below hW [])) ?_
      intro k e' cs' W' hk hR'
      have HI := Lib.hid (fun W1 hW1 => builtExpr_any e'.rk e' (Nat.le_refl _) cs' W1 (hR'.kept hW1))
      obtain ⟨op', n', nm', args', a', len', cap', rfl, rfl, _, _, _, _⟩ := hR'.inv
      have hk0 := Lib.hid (Kept.alloc W' (.cells #[.int .i64 op', .int .i64 n', .string nm', .slice a' len' cap'] 74) [])
      generalize bE (.mk op' n' nm' args') = v at *
      clear hR' hR hS hS2 hW ih hk
      go_enter Tryz.func103, Tryz.ntmps103
      go_wp2_with fail
      refine (HI.out _ hk0.out).mono ?_; rintro x w1 ⟨rfl, b1⟩
      go_wp2
      go_ret
      exact ⟨rfl, ((Below.refl _ _).alloc (Nat.le_refl _) _).trans (b1.mono (by simp))⟩
    have HC2 : Hid (∀ W, Below w.heap.size w W → Calls Tryz.prog 105 #[.slice a2 len2 cap2, .func (.func 106) #[] #[]] W fun e w' => e = .returned (.bool (terms.any fun e => !bT e)) ∧ Below W.heap.size W w') := by
      intro W hW
      refine containsT_any 106 _ terms a2 len2 cap2 W (enters_of Tryz.func106 (by kernel_rfl) rfl) (hS2.kept (Kept.of_below hW [])) ?_
      intro k e' cs' W' hk hR'
      have hlt := Te.rk_lt (op := op) (nm := nm) (x := exprs) hk
      have HI := Lib.hid (fun W1 hW1 => ih e' (by omega) cs' W1 (hR'.kept hW1))
      obtain ⟨op', nm', ex', te', a', len', cap', a3, len3, cap3, rfl, rfl, _, _, _, _⟩ := hR'.inv
      have hk0 := Lib.hid (Kept.alloc W' (.cells #[.int .i64 op', .string nm', .slice a' len' cap', .slice a3 len3 cap3] 41) [])
      generalize bT (.mk op' nm' ex' te') = v at *
      clear hR' hlt hR hS hS2 hW ih hk
      go_enter Tryz.func106, Tryz.ntmps106
      go_wp2_with fail
      refine (HI.out _ hk0.out).mono ?_; rintro x w1 ⟨rfl, b1⟩
      go_wp2
      go_ret
      exact ⟨rfl, ((Below.refl _ _).alloc (Nat.le_refl _) _).trans (b1.mono (by simp))⟩
    have HAR := Lib.hid (fun W => arities_any op W)
    have HFR := Lib.hid (fun W => free_any nm W i3)
    have HB := Lib.hid (show bT (.mk op nm exprs terms) = ((arX op == (len : Nat)) && (arT op == (len2 : Nat)) && (!(op == 2 && !fre nm) && !(op != 2 && !nm.toList.isEmpty)) && !(exprs.any fun e => !bE e) && !(terms.any fun e => !bT e)) by rw [← bT_go, ← f1, ← f4]; rfl)
    have HF : Hid (∀ x, bT (.mk op nm exprs terms) = x → Ending.returned (.bool x) = .returned (.bool (bT (.mk op nm exprs terms)))) := fun x h => by rw [h]
    generalize bT (.mk op nm exprs terms) = R at *
    generalize (exprs.any fun e => !bE e) = C at *
    generalize (terms.any fun e => !bT e) = D at *
    generalize arX op = A at *
    generalize arT op = A2 at *
    generalize fre nm = FR at *
    clear ih hr hR hS hS2 f1 f4 i1
    by_cases hA : A = (len : Int)
    case neg =>
      have F := Lib.hid (HF.out false (by rw [HB.out]; simp [hA]))
      have t1 : (A != (len : Int)) = true := by simp [hA]
      clear hA
      go_enter Tryz.func82, Tryz.ntmps82
      go_wp2_with fail
      refine (HAR.out _).mono ?_; rintro x w' ⟨rfl, rfl⟩
      go_wp2
      go_ret
      exact ⟨F.out, HW0.out⟩
    subst hA
    by_cases hA2 : A2 = (len2 : Int)
    case neg =>
      have F := Lib.hid (HF.out false (by rw [HB.out]; simp [hA2]))
      have t1 : (A2 != (len2 : Int)) = true := by simp [hA2]
      clear hA2
      go_enter Tryz.func82, Tryz.ntmps82
      go_wp2_with fail
      refine (HAR.out _).mono ?_; rintro x w' ⟨rfl, rfl⟩
      go_wp2
      go_ret
      exact ⟨F.out, HW0.out⟩
    subst hA2
    by_cases o2 : op = 2
    · subst o2
      cases FR
      · have F := Lib.hid (HF.out false (by rw [HB.out]; simp))
        go_enter Tryz.func82, Tryz.ntmps82
        go_wp2_with fail
        refine (HAR.out _).mono ?_; rintro x w' ⟨rfl, rfl⟩
        go_wp2_with fail
        refine (HFR.out _).mono ?_; rintro x w' ⟨rfl, rfl⟩
        go_wp2
        go_ret
        exact ⟨F.out, HW0.out⟩
      · cases C
        · have F := Lib.hid (HF.out (!D) (by rw [HB.out]; simp))
          go_enter Tryz.func82, Tryz.ntmps82
          go_wp2_with fail
          refine (HAR.out _).mono ?_; rintro x w' ⟨rfl, rfl⟩
          go_wp2_with fail
          refine (HFR.out _).mono ?_; rintro x w' ⟨rfl, rfl⟩
          go_wp2_with fail
          refine (HC.out _ HW0.out).mono ?_; rintro x w1 ⟨rfl, b1⟩
          have W1 := Lib.hid (HW0.out.trans (b1.mono HW0.out.size))
          have c3 : w1.cell? ⟨w.heap.size, 3, none⟩ = some (.slice a2 len2 cap2) := ((Mem.Blk.new w 41 #[.int .i64 _, .string nm, .slice a len cap, .slice a2 len2 cap2]).below b1).cell 3
          go_wp2_with fail
          refine (HC2.out _ W1.out).mono ?_; rintro x w2 ⟨rfl, b2⟩
          go_wp2
          go_ret
          exact ⟨F.out, W1.out.trans (b2.mono W1.out.size)⟩
        · have F := Lib.hid (HF.out false (by rw [HB.out]; simp))
          go_enter Tryz.func82, Tryz.ntmps82
          go_wp2_with fail
          refine (HAR.out _).mono ?_; rintro x w' ⟨rfl, rfl⟩
          go_wp2_with fail
          refine (HFR.out _).mono ?_; rintro x w' ⟨rfl, rfl⟩
          go_wp2_with fail
          refine (HC.out _ HW0.out).mono ?_; rintro x w1 ⟨rfl, b1⟩
          go_wp2
          go_ret
          exact ⟨F.out, HW0.out.trans (b1.mono HW0.out.size)⟩
    · have g2 : (op == 2) = false := by simp [o2]
      have g2' : (op != 2) = true := by simp [o2]
      cases he : nm.toList with
      | cons c0 ct =>
        have he2 : nm.toList.isEmpty = false := by rw [he]; rfl
        have he3 : (!nm.toList.isEmpty) = true := by rw [he2]; rfl
        have F := Lib.hid (HF.out false (by rw [HB.out, he2]; simp [o2]))
        clear he o2
        go_enter Tryz.func82, Tryz.ntmps82
        go_wp2_with fail
        refine (HAR.out _).mono ?_; rintro x w' ⟨rfl, rfl⟩
        go_wp2
        go_ret
        exact ⟨F.out, HW0.out⟩
      | nil =>
        have he2 : nm.toList.isEmpty = true := by rw [he]; rfl
        cases C
        · have F := Lib.hid (HF.out (!D) (by rw [HB.out, he2]; simp [o2]))
          clear o2
          go_enter Tryz.func82, Tryz.ntmps82
          go_wp2_with fail
          refine (HAR.out _).mono ?_; rintro x w' ⟨rfl, rfl⟩
          go_wp2_with fail
          refine (HC.out _ HW0.out).mono ?_; rintro x w1 ⟨rfl, b1⟩
          have W1 := Lib.hid (HW0.out.trans (b1.mono HW0.out.size))
          have c3 : w1.cell? ⟨w.heap.size, 3, none⟩ = some (.slice a2 len2 cap2) := ((Mem.Blk.new w 41 #[.int .i64 _, .string nm, .slice a len cap, .slice a2 len2 cap2]).below b1).cell 3
          go_wp2_with fail
          refine (HC2.out _ W1.out).mono ?_; rintro x w2 ⟨rfl, b2⟩
          go_wp2
          go_ret
          exact ⟨F.out, W1.out.trans (b2.mono W1.out.size)⟩
        · have F := Lib.hid (HF.out false (by rw [HB.out, he2]; simp))
          clear o2
          go_enter Tryz.func82, Tryz.ntmps82
          go_wp2_with fail
          refine (HAR.out _).mono ?_; rintro x w' ⟨rfl, rfl⟩
          go_wp2_with fail
          refine (HC.out _ HW0.out).mono ?_; rintro x w1 ⟨rfl, b1⟩
          go_wp2
          go_ret
          exact ⟨F.out, HW0.out.trans (b1.mono HW0.out.size)⟩
end Go.Proofs.YtmiinmndbkdjbaaGreat

/- Rows of elements of several cells. -/
namespace Go.Proofs.YtmiinmndbkdjbaaGreat
set_option linter.unusedVariables false
set_option linter.unusedSimpArgs false
open Go.RowKit
theorem flat_len {α : Type} (sz : Nat) : ∀ (vs : List (List α)), (∀ c ∈ vs, c.length = sz) → vs.flatten.length = vs.length * sz := by
  intro vs
  induction vs with
  | nil => intro _; simp
  | cons c t ih =>
    intro h
    rw [List.flatten_cons, List.length_append, ih (fun x hx => h x (List.mem_cons_of_mem _ hx)), h c (List.mem_cons_self ..), List.length_cons, Nat.add_mul]; omega
theorem flat_get {α : Type} (sz : Nat) : ∀ (vs : List (List α)), (∀ c ∈ vs, c.length = sz) → ∀ (i j : Nat) (c : List α), vs[i]? = some c → j < sz → vs.flatten[i * sz + j]? = c[j]? := by
  intro vs
  induction vs with
  | nil => intro _ i j c h; cases h
  | cons d t ih =>
    intro h i j c hc hj
    have hd := h d (List.mem_cons_self ..)
    cases i with
    | zero =>
      simp at hc; subst hc
      rw [List.flatten_cons, Nat.zero_mul, Nat.zero_add, List.getElem?_append_left (by omega)]
    | succ k =>
      rw [List.flatten_cons, List.getElem?_append_right (by rw [hd, Nat.add_mul]; omega), hd, show (k + 1) * sz + j - sz = k * sz + j by rw [Nat.add_mul]; omega]
      exact ih (fun x hx => h x (List.mem_cons_of_mem _ hx)) k j c (by simpa using hc) hj
theorem Sl.len4 {w : World} {X : List Nat} {sz len cap : Nat} {a : Option Addr} {vs : List (List Value)} (h : Sl w X sz a len cap vs) : ∀ c ∈ vs, c.length = sz := by
  intro c hc
  obtain ⟨i, hi, rfl⟩ := List.getElem_of_mem hc
  obtain ⟨b, o, _, _, _, hq⟩ := h.2.2.2 (by have := h.1; omega)
  exact (hq i _ (List.getElem?_eq_getElem hi)).1
/-- The cells of a slice's elements, one behind another. -/
theorem Sl.cells {w : World} {X : List Nat} {sz len cap b o : Nat} {vs : List (List Value)} (h : Sl w X sz (some ⟨b, o, none⟩) len cap vs) (hz : 0 < sz) : ∀ j u, vs.flatten[j]? = some u → w.cell? ((⟨b, o, none⟩ : Addr).add j) = some u := by
  intro j u hu
  have hl := h.len4
  have hlen := flat_len sz vs hl
  have hj : j < vs.length * sz := by rw [← hlen]; exact (List.getElem?_eq_some_iff.1 hu).1
  have hi : j / sz < vs.length := Nat.div_lt_of_lt_mul (by rw [Nat.mul_comm]; exact hj)
  have hm : j % sz < sz := Nat.mod_lt _ hz
  have e : j = j / sz * sz + j % sz := by rw [Nat.mul_comm]; exact (Nat.div_add_mod j sz).symm
  obtain ⟨b', o', ha, _, _, hc⟩ := h.2.2.2 (by rw [← h.1]; exact Nat.lt_of_le_of_lt (Nat.zero_le _) hi)
  injection ha with ha; injection ha with h1 h2; subst h1 h2
  have hci := List.getElem?_eq_getElem hi
  rw [e, flat_get sz vs hl _ _ _ hci hm] at hu
  rw [Mem.add_off, e, ← Nat.add_assoc]
  exact (hc _ _ hci).2 _ _ hu
/-- A row of the call's own, as a slice of elements. -/
theorem own_sl {w0 w : World} {e : TypeId} {sz n : Nat} {v : Value} {vs : List (List Value)} {X : List Nat} (h : Mem.Own w0 w e sz v n vs.flatten) (hn : vs.length = n) (hl : ∀ c ∈ vs, c.length = sz) (hX : ∀ b ∈ X, b < w0.heap.size) :
    ∃ a cap, v = .slice a n cap ∧ Sl w X sz a n cap vs ∧ ∀ g, v.ownBlock = some g → w0.heap.size ≤ g := by
  have hmx : maxLen = 9223372036854775807 := by decide
  rcases h.own.2 with ⟨rfl, rfl⟩ | ⟨g, cap, cur, rfl, h1, h2, h3, h4, h5, h6⟩
  · exact ⟨none, 0, rfl, ⟨hn, Nat.le_refl _, by omega, fun h => absurd h (by omega)⟩, fun x hx => by simp [Value.ownBlock] at hx⟩
  · refine ⟨_, cap, rfl, ⟨hn, h3, by omega, fun hp => ⟨g, 0, rfl, lt_of_block h2, fun hm => by have := hX g hm; omega, fun i cs hi => ?_⟩⟩, fun x hx => by simp [Value.ownBlock] at hx; omega⟩
    have hc := hl cs (List.mem_of_getElem? hi)
    refine ⟨hc, fun j c hj => ?_⟩
    have hjs : j < sz := by rw [← hc]; exact (List.getElem?_eq_some_iff.1 hj).1
    have hin : i < n := by rw [← hn]; exact (List.getElem?_eq_some_iff.1 hi).1
    rw [Nat.zero_add, h.cell (i * sz + j) (by calc i * sz + j < i * sz + sz := by omega
                                                _ = (i + 1) * sz := by rw [Nat.add_mul]; omega
                                                _ ≤ n * sz := Nat.mul_le_mul_right _ (by omega)), flat_get sz vs hl i j cs hi hjs]
    exact hj
theorem infoE : (Tryz.prog.info? 74).map (fun i => (i.zero, i.size, i.bytes)) = some (some (.agg #[.int .i64 0, .int .i64 0, .string ⟨#[]⟩, .slice none 0 0]), 4, 56) := by kernel_rfl
theorem infoT : (Tryz.prog.info? 41).map (fun i => (i.zero, i.size, i.bytes)) = some (some (.agg #[.int .i64 0, .string ⟨#[]⟩, .slice none 0 0, .slice none 0 0]), 4, 72) := by kernel_rfl
theorem RepE.one {w : World} {X : List Nat} {e : Ex} {cs : List Value} (h : RepE w X e cs) : cs.length = 4 ∧ ∀ u ∈ cs, u.oneCell' = true := by
  obtain ⟨op, n, nm, args, a, len, cap, rfl, rfl, _⟩ := h.inv
  exact ⟨rfl, by intro u hu; simp at hu; rcases hu with rfl | rfl | rfl | rfl <;> rfl⟩
theorem RepT.one {w : World} {X : List Nat} {e : Te} {cs : List Value} (h : RepT w X e cs) : cs.length = 4 ∧ ∀ u ∈ cs, u.oneCell' = true := by
  obtain ⟨op, nm, ex, te, a, len, cap, a2, len2, cap2, rfl, rfl, _⟩ := h.inv
  exact ⟨rfl, by intro u hu; simp at hu; rcases hu with rfl | rfl | rfl | rfl <;> rfl⟩
theorem flat_one {vs : List (List Value)} (h : ∀ c ∈ vs, ∀ u ∈ c, u.oneCell' = true) : ∀ u ∈ vs.flatten, u.oneCell' = true := by
  intro u hu
  obtain ⟨c, hc, hu⟩ := List.mem_flatten.1 hu
  exact h c hc u hu
end Go.Proofs.YtmiinmndbkdjbaaGreat

/- append onto a row of the call's own, as a step of a region that draws, and in a plain region. -/
namespace Go.Proofs.YtmiinmndbkdjbaaGreat
set_option linter.unusedVariables false
set_option linter.unusedSimpArgs false
open Go.RowKit
theorem step_ap {P : Program} {w : World} {ops : Array Oper} {o : Oper} {a : Act} {K : Act → World → Prop} {Q : Exit → Act → World → Prop} {E : Prop} {t e : TypeId} {z : Value} {size bytes base : Nat}
    (hinfo : (P.info? e).map (fun i => (i.zero, i.size, i.bytes)) = some (some z, size, bytes)) (ht : P.underlying t = some (.slice e)) (hzs : z.cells.size = size) (hsz : 0 < size)
    (hgd : o.guard = none) (s x : Operand) (ho : o.op = .call { callee := .builtin .append, args := #[s, x], argTypes := #[t, t] })
    {v : Value} {n : Nat} {xs : List Value} (hs : a.eval s = v) (hown : w.ownsRow base e size v n xs) (hbase : base ≤ w.heap.size)
    (ad : Addr) (m c : Nat) (news : List Value) (hx : a.eval x = .slice (some ad) m c) (hl : news.length = m * size)
    (hnews : ∀ j u, news[j]? = some u → w.cell? (ad.add j) = some u) (h1 : ∀ u ∈ news, u.oneCell' = true)
    (h63 : n + m ≤ maxLen) (hbytes : (n + m) * bytes ≤ 140737488355328)
    (h : ∀ v' w', w'.ownsRow base e size v' (n + m) (xs ++ news) → w.grownBy w' v.ownBlock → (v'.ownBlock = v.ownBlock ∨ v'.ownBlock = some w.heap.size) → K (a.put o.dst v') w') :
    if Region.wanted o (yielded ops a.tmps) = true then Oper.wp P o a w K Q else E := by
  obtain ⟨i, hi, hz, hsize, hby⟩ := info_parts hinfo
  have hw : Region.wanted o (yielded ops a.tmps) = true := by simp [Region.wanted, hgd]
  rw [if_pos hw]
  obtain ⟨v', w', hrun, h2, h3, h4, h5⟩ := run_append_own_at (P := P) w base t o.type e i z size bytes ht hi hz hsize hby hzs hsz v n xs hown ad m c news hl hnews h1 h63 hbytes hbase
  unfold Oper.wp execOp
  simp only [ho, resolve, invoke, builtin, Sem.run_bind, Sem.run_pure, Result.andThen_ok, List.map_toArray, List.map_cons, List.map_nil, hs, hx, hrun]
  exact h v' w' h2 h3 h5
/-- The form of a row that is not empty. -/
theorem own_form {w : World} {base : Nat} {e : TypeId} {sz n : Nat} {v : Value} {xs : List Value} (h : w.ownsRow base e sz v n xs) (hn : 0 < n) : ∃ g cap, v = .slice (some ⟨g, 0, none⟩) n cap ∧ base ≤ g ∧ g < w.heap.size ∧ n ≤ cap ∧ v.ownBlock = some g := by
  rcases h.2 with ⟨_, h0⟩ | ⟨g, cap, cur, rfl, h1, h2, h3, _⟩
  · omega
  · exact ⟨g, cap, rfl, h1, lt_of_block h2, h3, rfl⟩
theorem own_lt {w : World} {base : Nat} {e : TypeId} {sz n : Nat} {v : Value} {xs : List Value} (h : w.ownsRow base e sz v n xs) {g : Nat} (hg : v.ownBlock = some g) : base ≤ g ∧ g < w.heap.size := by
  rcases h.2 with ⟨rfl, _⟩ | ⟨g', cap, cur, rfl, h1, h2, _⟩
  · simp [Value.ownBlock] at hg
  · simp [Value.ownBlock] at hg; subst hg; exact ⟨h1, lt_of_block h2⟩
/-- The last element, laid as nought, is stored anew: four cells. -/
theorem own_last4 {w : World} {base g cap n : Nat} {e : TypeId} {xs : List Value} {z0 z1 z2 z3 c0 c1 c2 c3 : Value} (h : w.ownsRow base e 4 (.slice (some ⟨g, 0, none⟩) (n + 1) cap) (n + 1) (xs ++ [z0, z1, z2, z3])) (hx : xs.length = n * 4) :
    ((((w.setCell ⟨g, n * 4, none⟩ c0).setCell ⟨g, n * 4 + 1, none⟩ c1).setCell ⟨g, n * 4 + 2, none⟩ c2).setCell ⟨g, n * 4 + 3, none⟩ c3).ownsRow base e 4 (.slice (some ⟨g, 0, none⟩) (n + 1) cap) (n + 1) (xs ++ [c0, c1, c2, c3]) := by
  have h1 := (h.stored (n * 4) c0).1
  have h2 := (h1.stored (n * 4 + 1) c1).1
  have h3 := (h2.stored (n * 4 + 2) c2).1
  have h4 := (h3.stored (n * 4 + 3) c3).1
  have e0 : ((((xs ++ [z0, z1, z2, z3]).set (n * 4) c0).set (n * 4 + 1) c1).set (n * 4 + 2) c2).set (n * 4 + 3) c3 = xs ++ [c0, c1, c2, c3] := by
    rw [← hx]
    simp [List.set_append]
  rw [e0] at h4
  exact h4
theorem own_slice {w : World} {base : Nat} {e : TypeId} {sz n : Nat} {v : Value} {xs : List Value} (h : w.ownsRow base e sz v n xs) : ∃ a cap, v = .slice a n cap := by
  rcases h.2 with ⟨rfl, h0⟩ | ⟨g, cap, cur, rfl, _⟩
  · subst h0; exact ⟨none, 0, rfl⟩
  · exact ⟨_, cap, rfl⟩
theorem own_below {w w' : World} {base : Nat} {e : TypeId} {sz n : Nat} {v : Value} {xs : List Value} (h : w.ownsRow base e sz v n xs) (hb : Below w.heap.size w w') : w'.ownsRow base e sz v n xs :=
  h.kept (Mem.grown_of_below hb none) (by
    cases hv : v.ownBlock with
    | none => exact .inl rfl
    | some g => exact .inr (by simp))
/-- The four cells of the last element of a row that has grown by noughts. -/
theorem own_tail4 {w : World} {base g cap n : Nat} {e : TypeId} {xs : List Value} {z0 z1 z2 z3 : Value} (h : w.ownsRow base e 4 (.slice (some ⟨g, 0, none⟩) (n + 1) cap) (n + 1) (xs ++ [z0, z1, z2, z3])) (hx : xs.length = n * 4) :
    w.cell? ⟨g, n * 4, none⟩ = some z0 ∧ w.cell? ⟨g, n * 4 + 1, none⟩ = some z1 ∧ w.cell? ⟨g, n * 4 + 2, none⟩ = some z2 ∧ w.cell? ⟨g, n * 4 + 3, none⟩ = some z3 ∧
    w.frozen? ⟨g, n * 4, none⟩ = false ∧ w.frozen? ⟨g, n * 4 + 1, none⟩ = false ∧ w.frozen? ⟨g, n * 4 + 2, none⟩ = false ∧ w.frozen? ⟨g, n * 4 + 3, none⟩ = false := by
  have hc : ∀ j u, j < 4 → [z0, z1, z2, z3][j]? = some u → w.cell? ⟨g, n * 4 + j, none⟩ = some u := by
    intro j u hj hu
    rw [h.cellAt (n * 4 + j) (by omega), List.getElem?_append_right (by omega), hx, Nat.add_sub_cancel_left]; exact hu
  exact ⟨hc 0 _ (by omega) rfl, hc 1 _ (by omega) rfl, hc 2 _ (by omega) rfl, hc 3 _ (by omega) rfl, h.frozenAt _, h.frozenAt _, h.frozenAt _, h.frozenAt _⟩
end Go.Proofs.YtmiinmndbkdjbaaGreat

/- Slices of elements of any kind: read, and grown by the call itself. -/
namespace Go.Proofs.YtmiinmndbkdjbaaGreat
set_option linter.unusedVariables false
set_option linter.unusedSimpArgs false
open Go.RowKit
theorem RepT.parts {w : World} {X : List Nat} {op op' : Int} {nm nm' : ByteArray} {ex : List Ex} {te : List Te} {a a2 : Option Addr} {len cap len2 cap2 : Nat} (h : RepT w X (.mk op nm ex te) [.int .i64 op', .string nm', .slice a len cap, .slice a2 len2 cap2]) :
    op = op' ∧ nm = nm' ∧ I64 op ∧ nm.size ≤ 9223372036854775807 ∧ SlE w X ex a len cap ∧ SlT w X te a2 len2 cap2 := by
  cases h with
  | mk vs ho hs he hl hr hv => exact ⟨rfl, rfl, ho, hs, he, vs, hl, hr, hv⟩
theorem RepE.parts {w : World} {X : List Nat} {op op' n n' : Int} {nm nm' : ByteArray} {ex : List Ex} {a : Option Addr} {len cap : Nat} (h : RepE w X (.mk op n nm ex) [.int .i64 op', .int .i64 n', .string nm', .slice a len cap]) :
    op = op' ∧ n = n' ∧ nm = nm' ∧ I64 op ∧ I64 n ∧ nm.size ≤ 9223372036854775807 ∧ SlE w X ex a len cap := by
  cases h with
  | mk vs ho hn hs hl hr hv => exact ⟨rfl, rfl, rfl, ho, hn, hs, vs, hl, hr, hv⟩
/-- What elements are: how many cells each, and what is asked of them. -/
structure Elt (α : Type) where
  sz : Nat
  pos : 0 < sz
  R : World → List Nat → α → List Value → Prop
  kept : ∀ {w w' : World} {X : List Nat} {x : α} {cs : List Value}, R w X x cs → Kept X w w' → R w' X x cs
  less : ∀ {w : World} {X X' : List Nat} {x : α} {cs : List Value}, R w X x cs → (∀ b, b < w.heap.size → b ∈ X' → b ∈ X) → R w X' x cs
  one : ∀ {w : World} {X : List Nat} {x : α} {cs : List Value}, R w X x cs → cs.length = sz ∧ ∀ u ∈ cs, u.oneCell' = true
def exK : Elt Ex := ⟨4, by decide, RepE, fun h k => h.kept k, fun h k => h.less k, fun h => h.one⟩
def teK : Elt Te := ⟨4, by decide, RepT, fun h k => h.kept k, fun h k => h.less k, fun h => h.one⟩
/-- An int: what its cell holds. -/
def i64K : Elt Int := ⟨1, by decide, fun _ _ n cs => cs = [.int .i64 n] ∧ I64 n, fun h _ => h, fun h _ => h, fun h => by obtain ⟨rfl, _⟩ := h; exact ⟨rfl, by simp [Value.oneCell']⟩⟩
/-- A slice that reads as the list l; nothing of it lies in X. -/
def SlR {α : Type} (K : Elt α) (w : World) (X : List Nat) (l : List α) (a : Option Addr) (len cap : Nat) : Prop :=
  ∃ vs : List (List Value), vs.length = l.length ∧ (∀ (i : Nat) (x : α) (cs : List Value), l[i]? = some x → vs[i]? = some cs → K.R w X x cs) ∧ Sl w X K.sz a len cap vs
section
variable {α : Type} {K : Elt α} {w w' : World} {X X' : List Nat} {l : List α} {a : Option Addr} {len cap : Nat}
theorem SlR.kept (h : SlR K w X l a len cap) (k : Kept X w w') : SlR K w' X l a len cap := by
  obtain ⟨vs, h1, h2, h3⟩ := h
  exact ⟨vs, h1, fun i e cs he hc => K.kept (h2 i e cs he hc) k, h3.kept k⟩
theorem SlR.less (h : SlR K w X l a len cap) (hX : ∀ b, b < w.heap.size → b ∈ X' → b ∈ X) : SlR K w X' l a len cap := by
  obtain ⟨vs, h1, h2, h3⟩ := h
  exact ⟨vs, h1, fun i e cs he hc => K.less (h2 i e cs he hc) hX, h3.less hX⟩
theorem SlR.facts (h : SlR K w X l a len cap) : l.length = len ∧ len ≤ cap ∧ cap ≤ 9223372036854775807 := by
  obtain ⟨vs, h1, _, h3⟩ := h; exact ⟨by rw [← h1]; exact h3.1, h3.2.1, h3.2.2.1⟩
theorem SlR.nil (K : Elt α) (w : World) (X : List Nat) : SlR K w X [] none 0 0 := ⟨[], rfl, fun i e cs h _ => by simp at h, Sl.nil _ _ _⟩
theorem SlR.take (h : SlR K w X l a len cap) (k : Nat) (hk : k ≤ len) : SlR K w X (l.take k) a k cap := by
  obtain ⟨vs, h1, h2, h3⟩ := h
  refine ⟨vs.take k, by simp [h1], fun i x cs hi hc => h2 i x cs ?_ ?_, h3.take k hk⟩
  · rw [List.getElem?_take] at hi; split at hi <;> simp_all
  · rw [List.getElem?_take] at hc; split at hc <;> simp_all
/-- The k-th element: where it lies, and its cells. -/
theorem SlR.at (h : SlR K w X l a len cap) (k : Nat) (hk : k < len) : ∃ b o x cs, a = some ⟨b, o, none⟩ ∧ b < w.heap.size ∧ b ∉ X ∧ l[k]? = some x ∧ K.R w X x cs ∧ cs.length = K.sz ∧ ∀ j c, cs[j]? = some c → w.cell? ⟨b, o + k * K.sz + j, none⟩ = some c := by
  have hf := h.facts
  obtain ⟨vs, h1, h2, h3⟩ := h
  obtain ⟨b, o, ha, hb, hx, hc⟩ := h3.2.2.2 (by omega)
  have hlk : l[k]? = some (l[k]'(by omega)) := List.getElem?_eq_getElem (by omega)
  have hvk : vs[k]? = some (vs[k]'(by omega)) := List.getElem?_eq_getElem (by omega)
  exact ⟨b, o, _, _, ha, hb, hx, hlk, h2 k _ _ hlk hvk, (hc k _ hvk).1, (hc k _ hvk).2⟩
end
theorem SlE.slR {w : World} {X : List Nat} {l : List Ex} {a : Option Addr} {len cap : Nat} (h : SlE w X l a len cap) : SlR exK w X l a len cap := h
theorem SlT.slR {w : World} {X : List Nat} {l : List Te} {a : Option Addr} {len cap : Nat} (h : SlT w X l a len cap) : SlR teK w X l a len cap := h
theorem SlR.slE {w : World} {X : List Nat} {l : List Ex} {a : Option Addr} {len cap : Nat} (h : SlR exK w X l a len cap) : SlE w X l a len cap := h
theorem SlR.slT {w : World} {X : List Nat} {l : List Te} {a : Option Addr} {len cap : Nat} (h : SlR teK w X l a len cap) : SlT w X l a len cap := h
theorem or_map {p q r s : Prop} (h : p ∨ q) (f : p → r) (g : q → s) : r ∨ s := h.elim (fun x => .inl (f x)) (fun x => .inr (g x))
/-- Blocks that are still written: the row of v, and the ones of Y. -/
def busy (v : Value) (Y : List Nat) : List Nat := v.ownBlock.toList ++ Y
theorem busy_mem {v : Value} {Y : List Nat} {b : Nat} : b ∈ busy v Y ↔ v.ownBlock = some b ∨ b ∈ Y := by
  unfold busy; rw [List.mem_append, Option.mem_toList]
/-- v is a slice that the call itself makes, in a block from base on (base lies above all of X); it reads as l; nothing of its elements lies in X or in its own row. -/
structure Gro {α : Type} (K : Elt α) (e : TypeId) (base : Nat) (w : World) (X : List Nat) (l : List α) (v : Value) (csl : List (List Value)) : Prop where
  own : w.ownsRow base e K.sz v l.length csl.flatten
  room : base ≤ w.heap.size
  above : ∀ b ∈ X, b < base
  count : csl.length = l.length
  elts : ∀ (i : Nat) (x : α) (cs : List Value), l[i]? = some x → csl[i]? = some cs → K.R w (busy v X) x cs
section
variable {α : Type} {K : Elt α} {e : TypeId} {base : Nat} {w w' w1 w2 : World} {X Y : List Nat} {l : List α} {v v' : Value} {csl : List (List Value)}
theorem Gro.len4 (h : Gro K e base w X l v csl) : ∀ c ∈ csl, c.length = K.sz := by
  intro c hcm
  obtain ⟨i, hi, rfl⟩ := List.getElem_of_mem hcm
  exact (K.one (h.elts i _ _ (List.getElem?_eq_getElem (by have := h.count; omega)) (List.getElem?_eq_getElem hi))).1
theorem Gro.flat (h : Gro K e base w X l v csl) : csl.flatten.length = l.length * K.sz := by rw [flat_len K.sz csl h.len4, h.count]
theorem Gro.start (K : Elt α) (e : TypeId) {base : Nat} {w : World} {X : List Nat} (hb : base ≤ w.heap.size) (hX : ∀ b ∈ X, b < base) : Gro K e base w X [] (.slice none 0 0) [] :=
  ⟨World.ownsRow_nil _ _ _ _, hb, hX, rfl, fun i x cs h _ => by simp at h⟩
theorem Gro.lt (h : Gro K e base w X l v csl) {g : Nat} (hg : v.ownBlock = some g) : base ≤ g ∧ g < w.heap.size := own_lt h.own hg
theorem Gro.notIn (h : Gro K e base w X l v csl) {g : Nat} (hg : v.ownBlock = some g) : g ∉ X := fun hm => by have := h.above g hm; have := (h.lt hg).1; omega
theorem own_same {w w' : World} {base : Nat} {e : TypeId} {sz n : Nat} {v : Value} {xs : List Value} (h : w.ownsRow base e sz v n xs) (hg : ∀ g, v.ownBlock = some g → w'.heap[g]? = w.heap[g]?) : w'.ownsRow base e sz v n xs := by
  obtain ⟨h1, h2⟩ := h
  refine ⟨h1, ?_⟩
  rcases h2 with h2 | ⟨g, cap, cur, hv, hgb, hh, r⟩
  · exact .inl h2
  · subst hv
    exact .inr ⟨g, cap, cur, rfl, hgb, by rw [hg g rfl]; exact hh, r⟩
/-- Whatever is written but its own row: blocks of Y, all of them in X. -/
theorem Gro.kept (h : Gro K e base w X l v csl) (k : Kept Y w w') (hY : ∀ b ∈ Y, b ∈ X) : Gro K e base w' X l v csl :=
  ⟨own_same h.own (fun g hg => k.2 g (h.lt hg).2 (fun hm => h.notIn hg (hY g hm))), Nat.le_trans h.room k.1, h.above, h.count, fun i x cs hx hc => K.kept (h.elts i x cs hx hc) (k.more (fun b hb => busy_mem.2 (.inr (hY b hb))))⟩
theorem Gro.below (h : Gro K e base w X l v csl) (k : Below w.heap.size w w') : Gro K e base w' X l v csl := h.kept (Y := []) (Kept.of_below k []) (fun b hb => by cases hb)
theorem Gro.alloc (h : Gro K e base w X l v csl) (o : Obj) : Gro K e base (w.alloc o) X l v csl := h.kept (Y := []) (Kept.alloc w o []) (fun b hb => by cases hb)
theorem Gro.set_ (h : Gro K e base w X l v csl) {p : Addr} (hp : p.block ∈ X) (u : Value) : Gro K e base (w.setCell p u) X l v csl := h.kept (Y := X) (Kept.setCell w hp u) (fun b hb => hb)
/-- Fewer blocks that are written. -/
theorem Gro.less (h : Gro K e base w X l v csl) (hX : ∀ b ∈ Y, b ∈ X) : Gro K e base w Y l v csl :=
  ⟨h.own, h.room, fun b hb => h.above b (hX b hb), h.count, fun i x cs hx hc => K.less (h.elts i x cs hx hc) (fun b _ hm => busy_mem.2 (or_map (busy_mem.1 hm) id (hX b)))⟩
/-- What append has left: the row with news behind, in its old place or in a new block. Elements stay, and so does all that avoids X and the row. -/
theorem Gro.rowKept (h : Gro K e base w X l v csl) (hg : w.grownBy w' v.ownBlock) : Kept (busy v X) w w' := Kept.of_grown_own hg (fun b hb => busy_mem.2 (.inl hb))
/-- One element more. -/
theorem Gro.push (h : Gro K e base w X l v csl) {x : α} {cs : List Value} (hR : K.R w (busy v X) x cs)
    (ho : w'.ownsRow base e K.sz v' (l.length + 1) (csl.flatten ++ cs)) (hg : w.grownBy w' v.ownBlock) (hv : v'.ownBlock = v.ownBlock ∨ v'.ownBlock = some w.heap.size) :
    Gro K e base w' X (l ++ [x]) v' (csl ++ [cs]) := by
  have hK := h.rowKept hg
  have cut : ∀ b, b < w.heap.size → b ∈ busy v' X → b ∈ busy v X := by
    intro b hb hm
    rcases busy_mem.1 hm with hm | hm
    · rcases hv with hv | hv
      · exact busy_mem.2 (.inl (by rw [← hv]; exact hm))
      · rw [hm] at hv; injection hv with hv; omega
    · exact busy_mem.2 (.inr hm)
  have hK' : Kept (busy v X ++ busy v' X) w w' := hK.more (fun b hb => List.mem_append.2 (.inl hb))
  have move : ∀ y c, K.R w (busy v X) y c → K.R w' (busy v' X) y c := by
    intro y c hy
    have h1 : K.R w (busy v X ++ busy v' X) y c := K.less hy (fun b hb hm => by
      rcases List.mem_append.1 hm with hm | hm
      · exact hm
      · exact cut b hb hm)
    exact K.less (K.kept h1 hK') (fun b _ hm => List.mem_append.2 (.inr hm))
  refine ⟨by rw [List.length_append, List.flatten_append, List.flatten_singleton]; exact ho, Nat.le_trans h.room hg.size, h.above, by rw [List.length_append, List.length_append, h.count]; rfl, fun i y c hy hc => ?_⟩
  rcases Nat.lt_or_ge i l.length with hi | hi
  · rw [List.getElem?_append_left hi] at hy
    rw [List.getElem?_append_left (by rw [h.count]; exact hi)] at hc
    exact move _ _ (h.elts i y c hy hc)
  · rw [List.getElem?_append_right hi] at hy
    rw [List.getElem?_append_right (by rw [h.count]; exact hi), h.count] at hc
    have hil : i - l.length = 0 := by
      have := (List.getElem?_eq_some_iff.1 hy).1; simp at this; exact this
    rw [hil] at hy hc
    injection hy with hy; injection hc with hc
    subst hy; subst hc
    exact move _ _ hR
/-- Four noughts appended, then stored over: one element more; between the append and the stores nothing else is written. -/
theorem Gro.push4 (hsz : K.sz = 4) (h : Gro K e base w X l v csl) {x : α} {z0 z1 z2 z3 c0 c1 c2 c3 : Value} {g cap' : Nat} (hR : K.R w (busy v X) x [c0, c1, c2, c3])
    (ho : w'.ownsRow base e K.sz v' (l.length + 1) (csl.flatten ++ [z0, z1, z2, z3])) (hg : w.grownBy w' v.ownBlock) (hv : v'.ownBlock = v.ownBlock ∨ v'.ownBlock = some w.heap.size) (hv' : v' = .slice (some ⟨g, 0, none⟩) (l.length + 1) cap') :
    Gro K e base ((((w'.setCell ⟨g, l.length * 4, none⟩ c0).setCell ⟨g, l.length * 4 + 1, none⟩ c1).setCell ⟨g, l.length * 4 + 2, none⟩ c2).setCell ⟨g, l.length * 4 + 3, none⟩ c3) X (l ++ [x]) v' (csl ++ [[c0, c1, c2, c3]]) := by
  have hob : v'.ownBlock = some g := by rw [hv']; rfl
  have hgX : g ∉ X := fun hm => by have := h.above g hm; have := (own_lt ho hob).1; omega
  have hK := h.rowKept hg
  have kS : Kept [g] w' ((((w'.setCell ⟨g, l.length * 4, none⟩ c0).setCell ⟨g, l.length * 4 + 1, none⟩ c1).setCell ⟨g, l.length * 4 + 2, none⟩ c2).setCell ⟨g, l.length * 4 + 3, none⟩ c3) :=
    (((Kept.setCell w' (by simp) _).trans (Kept.setCell _ (by simp) _)).trans (Kept.setCell _ (by simp) _)).trans (Kept.setCell _ (by simp) _)
  have cut : ∀ b, b < w.heap.size → b ∈ busy v' X → b ∈ busy v X := by
    intro b hb hm
    rcases busy_mem.1 hm with hm | hm
    · rcases hv with hv | hv
      · exact busy_mem.2 (.inl (by rw [← hv]; exact hm))
      · rw [hm] at hv; injection hv with hv; omega
    · exact busy_mem.2 (.inr hm)
  have hK' : Kept (busy v X ++ busy v' X) w w' := hK.more (fun b hb => List.mem_append.2 (.inl hb))
  have kS' := kS.more (X' := busy v' X) (fun b hb => by rw [List.mem_singleton] at hb; subst hb; exact busy_mem.2 (.inl hob))
  have move : ∀ y c, K.R w (busy v X) y c → K.R ((((w'.setCell ⟨g, l.length * 4, none⟩ c0).setCell ⟨g, l.length * 4 + 1, none⟩ c1).setCell ⟨g, l.length * 4 + 2, none⟩ c2).setCell ⟨g, l.length * 4 + 3, none⟩ c3) (busy v' X) y c := by
    intro y c hy
    have h1 : K.R w (busy v X ++ busy v' X) y c := K.less hy (fun b hb hm => by
      rcases List.mem_append.1 hm with hm | hm
      · exact hm
      · exact cut b hb hm)
    exact K.kept (K.less (K.kept h1 hK') (fun b _ hm => List.mem_append.2 (.inr hm))) kS'
  have hfl := h.flat
  rw [hsz] at hfl
  refine ⟨?_, ?_, h.above, by rw [List.length_append, List.length_append, h.count]; rfl, fun i y c hy hc => ?_⟩
  · subst hv'
    rw [List.length_append, List.flatten_append, List.flatten_singleton]
    rw [hsz] at ho ⊢
    exact own_last4 ho hfl
  · exact Nat.le_trans h.room (Nat.le_trans hg.size kS.1)
  · rcases Nat.lt_or_ge i l.length with hi | hi
    · rw [List.getElem?_append_left hi] at hy
      rw [List.getElem?_append_left (by rw [h.count]; exact hi)] at hc
      exact move _ _ (h.elts i y c hy hc)
    · rw [List.getElem?_append_right hi] at hy
      rw [List.getElem?_append_right (by rw [h.count]; exact hi), h.count] at hc
      have hil : i - l.length = 0 := by
        have := (List.getElem?_eq_some_iff.1 hy).1; simp at this; exact this
      rw [hil] at hy hc
      injection hy with hy; injection hc with hc
      subst hy; subst hc
      exact move _ _ hR
/-- It is a slice like any other when it is done. -/
theorem Gro.slR (h : Gro K e base w X l v csl) : ∃ a cap, v = .slice a l.length cap ∧ SlR K w X l a l.length cap := by
  have hmx : maxLen = 9223372036854775807 := by decide
  have hel : ∀ (i : Nat) (x : α) (cs : List Value), l[i]? = some x → csl[i]? = some cs → K.R w X x cs := fun i x cs hx hc => K.less (h.elts i x cs hx hc) (fun b _ hm => busy_mem.2 (.inr hm))
  rcases h.own.2 with ⟨rfl, h00⟩ | ⟨g, capn, cur, hv, h1, h2, h3, h4, h5, h6⟩
  · have h1 : csl = [] := List.length_eq_zero_iff.1 (by rw [h.count, h00])
    subst h1
    refine ⟨none, 0, by rw [h00], [], by simpa using h00.symm, fun i x cs hx _ => hel i x cs hx ‹_›, ?_⟩
    rw [h00]
    exact Sl.nil _ _ _
  · subst hv
    refine ⟨_, capn, rfl, csl, h.count, hel, h.count, h3, by omega, fun hp => ⟨g, 0, rfl, lt_of_block h2, fun hm => by have := h.above g hm; omega, fun i cs hi => ⟨h.len4 cs (List.mem_of_getElem? hi), fun j c hj => ?_⟩⟩⟩
    have h4' := h.len4 cs (List.mem_of_getElem? hi)
    have hjs : j < K.sz := by rw [← h4']; exact (List.getElem?_eq_some_iff.1 hj).1
    have hi' : i < l.length := by rw [← h.count]; exact (List.getElem?_eq_some_iff.1 hi).1
    rw [Nat.zero_add, h.own.cellAt (i * K.sz + j) (by calc i * K.sz + j < i * K.sz + K.sz := by omega
                                                          _ = (i + 1) * K.sz := by rw [Nat.add_mul]; omega
                                                          _ ≤ l.length * K.sz := Nat.mul_le_mul_right _ (by omega)), flat_get K.sz csl h.len4 i j cs hi hjs]
    exact hj
/-- Something kept apart from X and the row (another slice, a tree ..) stands behind an append of one element: the new row is none of its blocks. -/
theorem busy_cut {w : World} {v v' : Value} {X : List Nat} (hv : v'.ownBlock = v.ownBlock ∨ v'.ownBlock = some w.heap.size) : ∀ b, b < w.heap.size → b ∈ busy v' X → b ∈ busy v X := by
  intro b hb hm
  rcases busy_mem.1 hm with hm | hm
  · rcases hv with hv | hv
    · exact busy_mem.2 (.inl (by rw [← hv]; exact hm))
    · rw [hm] at hv; injection hv with hv; omega
  · exact busy_mem.2 (.inr hm)
end
end Go.Proofs.YtmiinmndbkdjbaaGreat

/- Slices that a call makes itself and lets grow, several beside each other: each keeps out of the blocks of X (the other ones' rows, what is written besides). -/
namespace Go.Proofs.YtmiinmndbkdjbaaGreat
set_option linter.unusedVariables false
set_option linter.unusedSimpArgs false
open Go.RowKit
/-- What avoids X stands where only blocks of X were written, and avoids what was made since. -/
theorem Elt.to {α : Type} (K : Elt α) {w w' : World} {X Y X' : List Nat} {x : α} {cs : List Value} (h : K.R w X x cs) (k : Kept Y w w') (hY : ∀ b ∈ Y, b ∈ X) (hX : ∀ b ∈ X', b ∈ X ∨ w.heap.size ≤ b) : K.R w' X' x cs := by
  have h1 : K.R w (X ++ X') x cs := K.less h (fun b hb hm => by
    rcases List.mem_append.1 hm with hm | hm
    · exact hm
    · exact (hX b hm).resolve_right (by omega))
  exact K.less (K.kept h1 (k.more (fun b hb => List.mem_append.2 (.inl (hY b hb))))) (fun b _ hm => List.mem_append.2 (.inr hm))
theorem SlR.to {α : Type} {K : Elt α} {w w' : World} {X Y X' : List Nat} {l : List α} {a : Option Addr} {len cap : Nat} (h : SlR K w X l a len cap) (k : Kept Y w w') (hY : ∀ b ∈ Y, b ∈ X) (hX : ∀ b ∈ X', b ∈ X ∨ w.heap.size ≤ b) : SlR K w' X' l a len cap := by
  have h1 : SlR K w (X ++ X') l a len cap := h.less (fun b hb hm => by
    rcases List.mem_append.1 hm with hm | hm
    · exact hm
    · exact (hX b hm).resolve_right (by omega))
  exact (h1.kept (k.more (fun b hb => List.mem_append.2 (.inl (hY b hb))))).less (fun b _ hm => List.mem_append.2 (.inr hm))
/-- append onto a row of the call's own, in a plain region. -/
theorem ap_row {P : Program} {w : World} {ops : Array Oper} {rest : List Oper} {o : Oper} {a : Act} {Q : Exit → Act → World → Prop} {t e : TypeId} {z : Value} {size bytes base : Nat}
    (hinfo : (P.info? e).map (fun i => (i.zero, i.size, i.bytes)) = some (some z, size, bytes)) (ht : P.underlying t = some (.slice e)) (hzs : z.cells.size = size) (hsz : 0 < size)
    (hgd : o.guard = none) (s x : Operand) (ho : o.op = .call { callee := .builtin .append, args := #[s, x], argTypes := #[t, t] })
    {v : Value} {n : Nat} {xs : List Value} (hs : a.eval s = v) (hown : w.ownsRow base e size v n xs) (hbase : base ≤ w.heap.size)
    (ad : Addr) (m c : Nat) (news : List Value) (hx : a.eval x = .slice (some ad) m c) (hl : news.length = m * size)
    (hnews : ∀ j u, news[j]? = some u → w.cell? (ad.add j) = some u) (h1 : ∀ u ∈ news, u.oneCell' = true)
    (h63 : n + m ≤ maxLen) (hbytes : (n + m) * bytes ≤ 140737488355328)
    (h : ∀ v' w', w'.ownsRow base e size v' (n + m) (xs ++ news) → w.grownBy w' v.ownBlock → (v'.ownBlock = v.ownBlock ∨ v'.ownBlock = some w.heap.size) → wpList P ops Q rest (a.put o.dst v') w') :
    wpList P ops Q (o :: rest) a w := by
  obtain ⟨i, hi, hz, hsize, hby⟩ := info_parts hinfo
  refine wpList_plain hgd fun _ hK => ?_
  obtain ⟨v', w', hrun, h2, h3, h4, h5⟩ := run_append_own_at (P := P) w base t o.type e i z size bytes ht hi hz hsize hby hzs hsz v n xs hown ad m c news hl hnews h1 h63 hbytes hbase
  unfold Oper.wp execOp
  simp only [ho, resolve, invoke, builtin, Sem.run_bind, Sem.run_pure, Result.andThen_ok, List.map_toArray, List.map_cons, List.map_nil, hs, hx, hrun]
  exact hK _ _ (h v' w' h2 h3 h5)
theorem lit_cells_at (w : World) (cs : Array Value) (t : TypeId) (g : Nat) (hg : g = w.heap.size) : ∀ j u, cs.toList[j]? = some u → (w.alloc (.cells cs t)).cell? ((⟨g, 0, none⟩ : Addr).add j) = some u := by
  subst hg; exact Mem.lit_cells w cs t
def slK {α : Type} (K : Elt α) : World → List Nat → List α → Value → Prop := fun w X l v => ∃ a cap, v = .slice a l.length cap ∧ SlR K w X l a l.length cap
structure Grow {α : Type} (K : Elt α) (e : TypeId) (base : Nat) (w : World) (X : List Nat) (l : List α) (v : Value) (csl : List (List Value)) : Prop where
  own : w.ownsRow base e K.sz v l.length csl.flatten
  room : base ≤ w.heap.size
  apart : ∀ g, v.ownBlock = some g → g ∉ X
  lt : ∀ b ∈ X, b < w.heap.size
  count : csl.length = l.length
  elts : ∀ (i : Nat) (x : α) (cs : List Value), l[i]? = some x → csl[i]? = some cs → K.R w (busy v X) x cs
section
variable {α : Type} {K : Elt α} {e : TypeId} {base : Nat} {w w' w1 w2 : World} {X Y X' : List Nat} {l : List α} {v v' : Value} {csl : List (List Value)}
theorem Grow.len4 (h : Grow K e base w X l v csl) : ∀ c ∈ csl, c.length = K.sz := by
  intro c hcm
  obtain ⟨i, hi, rfl⟩ := List.getElem_of_mem hcm
  exact (K.one (h.elts i _ _ (List.getElem?_eq_getElem (by have := h.count; omega)) (List.getElem?_eq_getElem hi))).1
theorem Grow.flat (h : Grow K e base w X l v csl) : csl.flatten.length = l.length * K.sz := by rw [flat_len K.sz csl h.len4, h.count]
theorem Grow.start (K : Elt α) (e : TypeId) {base : Nat} {w : World} {X : List Nat} (hb : base ≤ w.heap.size) (hX : ∀ b ∈ X, b < w.heap.size) : Grow K e base w X [] (.slice none 0 0) [] :=
  ⟨World.ownsRow_nil _ _ _ _, hb, fun g hg => by simp [Value.ownBlock] at hg, hX, rfl, fun i x cs h _ => by simp at h⟩
theorem Grow.blt (h : Grow K e base w X l v csl) {g : Nat} (hg : v.ownBlock = some g) : base ≤ g ∧ g < w.heap.size := own_lt h.own hg
/-- Whatever is written but its own row (blocks of Y, all in X); X may turn to other blocks of X and new ones. -/
theorem Grow.to (h : Grow K e base w X l v csl) (k : Kept Y w w') (hY : ∀ b ∈ Y, b ∈ X) (hX : ∀ b ∈ X', (b ∈ X ∨ w.heap.size ≤ b) ∧ b < w'.heap.size) : Grow K e base w' X' l v csl :=
  ⟨own_same h.own (fun g hg => k.2 g (h.blt hg).2 (fun hm => h.apart g hg (hY g hm))), Nat.le_trans h.room k.1,
    fun g hg hm => by
      rcases (hX g hm).1 with h1 | h1
      · exact h.apart g hg h1
      · have := (h.blt hg).2; omega,
    fun b hb => (hX b hb).2, h.count, fun i x cs hx hc => K.to (h.elts i x cs hx hc) k (fun b hb => busy_mem.2 (.inr (hY b hb))) (fun b hb => by
      rcases busy_mem.1 hb with hm | hm
      · exact .inl (busy_mem.2 (.inl hm))
      · exact or_map (hX b hm).1 (fun h1 => busy_mem.2 (.inr h1)) id)⟩
theorem Grow.same (h : Grow K e base w X l v csl) (k : Kept Y w w') (hY : ∀ b ∈ Y, b ∈ X) : Grow K e base w' X l v csl := h.to k hY (fun b hb => ⟨.inl hb, Nat.lt_of_lt_of_le (h.lt b hb) k.1⟩)
theorem Grow.below (h : Grow K e base w X l v csl) (k : Below w.heap.size w w') : Grow K e base w' X l v csl := h.same (Kept.of_below k []) (fun b hb => by cases hb)
theorem Grow.alloc (h : Grow K e base w X l v csl) (o : Obj) : Grow K e base (w.alloc o) X l v csl := h.same (Kept.alloc w o []) (fun b hb => by cases hb)
theorem Grow.drew (h : Grow K e base w X l v csl) : Grow K e base w.drew X l v csl := h.same (Y := []) (Kept.of_below (Below.refl w.heap.size w).drew []) (fun b hb => by cases hb)
theorem Grow.set_ (h : Grow K e base w X l v csl) {p : Addr} (hp : p.block ∈ X) (u : Value) : Grow K e base (w.setCell p u) X l v csl := h.same (Y := X) (Kept.setCell w hp u) (fun b hb => hb)
theorem Grow.cut (h : Grow K e base w X l v csl) (hX : ∀ b ∈ X', b ∈ X) : Grow K e base w X' l v csl := h.to (Kept.refl w []) (fun b hb => by cases hb) (fun b hb => ⟨.inl (hX b hb), h.lt b (hX b hb)⟩)
/-- What an append to it writes: its own row. -/
theorem Grow.row (_h : Grow K e base w X l v csl) (hg : w.grownBy w' v.ownBlock) : Kept v.ownBlock.toList w w' := Kept.of_grown_own hg (fun b hb => by rw [hb]; simp)
/-- The row behind an append: in its old place, or new. -/
theorem own_next {w : World} {v v' : Value} (hv : v'.ownBlock = v.ownBlock ∨ v'.ownBlock = some w.heap.size) : ∀ b ∈ v'.ownBlock.toList, b ∈ v.ownBlock.toList ∨ w.heap.size ≤ b := by
  intro b hb
  rw [Option.mem_toList] at hb
  rcases hv with h | h
  · exact .inl (by rw [Option.mem_toList, ← h]; exact hb)
  · rw [h] at hb; injection hb with hb; exact .inr (by omega)
/-- One element more. -/
theorem Grow.push (h : Grow K e base w X l v csl) {x : α} {cs : List Value} (hR : K.R w (busy v X) x cs)
    (ho : w'.ownsRow base e K.sz v' (l.length + 1) (csl.flatten ++ cs)) (hg : w.grownBy w' v.ownBlock) (hv : v'.ownBlock = v.ownBlock ∨ v'.ownBlock = some w.heap.size) :
    Grow K e base w' X (l ++ [x]) v' (csl ++ [cs]) := by
  have hK := h.row hg
  have move : ∀ y c, K.R w (busy v X) y c → K.R w' (busy v' X) y c := fun y c hy => K.to hy hK (fun b hb => busy_mem.2 (.inl (by rw [Option.mem_toList] at hb; exact hb))) (fun b hb => by
    rcases busy_mem.1 hb with hm | hm
    · exact or_map (own_next hv b (by rw [Option.mem_toList]; exact hm)) (fun h1 => busy_mem.2 (.inl (by rw [Option.mem_toList] at h1; exact h1))) id
    · exact .inl (busy_mem.2 (.inr hm)))
  refine ⟨by rw [List.length_append, List.flatten_append, List.flatten_singleton]; exact ho, Nat.le_trans h.room hg.size, fun g hgb hm => ?_, fun b hb => Nat.lt_of_lt_of_le (h.lt b hb) hg.size, by rw [List.length_append, List.length_append, h.count]; rfl, fun i y c hy hc => ?_⟩
  · rcases hv with h1 | h1
    · exact h.apart g (by rw [← h1]; exact hgb) hm
    · rw [h1] at hgb; injection hgb with hgb; have := h.lt g hm; omega
  · rcases Nat.lt_or_ge i l.length with hi | hi
    · rw [List.getElem?_append_left hi] at hy
      rw [List.getElem?_append_left (by rw [h.count]; exact hi)] at hc
      exact move _ _ (h.elts i y c hy hc)
    · rw [List.getElem?_append_right hi] at hy
      rw [List.getElem?_append_right (by rw [h.count]; exact hi), h.count] at hc
      have hil : i - l.length = 0 := by
        have := (List.getElem?_eq_some_iff.1 hy).1; simp at this; exact this
      rw [hil] at hy hc
      injection hy with hy; injection hc with hc
      subst hy; subst hc
      exact move _ _ hR
/-- It is a slice like any other. -/
theorem Grow.slR (h : Grow K e base w X l v csl) : ∃ a cap, v = .slice a l.length cap ∧ SlR K w X l a l.length cap := by
  have hmx : maxLen = 9223372036854775807 := by decide
  have hel : ∀ (i : Nat) (x : α) (cs : List Value), l[i]? = some x → csl[i]? = some cs → K.R w X x cs := fun i x cs hx hc => K.less (h.elts i x cs hx hc) (fun b _ hm => busy_mem.2 (.inr hm))
  rcases h.own.2 with ⟨rfl, h00⟩ | ⟨g, capn, cur, hv, h1, h2, h3, h4, h5, h6⟩
  · have h1 : csl = [] := List.length_eq_zero_iff.1 (by rw [h.count, h00])
    subst h1
    refine ⟨none, 0, by rw [h00], [], by simpa using h00.symm, fun i x cs hx _ => hel i x cs hx ‹_›, ?_⟩
    rw [h00]
    exact Sl.nil _ _ _
  · subst hv
    refine ⟨_, capn, rfl, csl, h.count, hel, h.count, h3, by omega, fun hp => ⟨g, 0, rfl, lt_of_block h2, h.apart g rfl, fun i cs hi => ⟨h.len4 cs (List.mem_of_getElem? hi), fun j c hj => ?_⟩⟩⟩
    have h4' := h.len4 cs (List.mem_of_getElem? hi)
    have hjs : j < K.sz := by rw [← h4']; exact (List.getElem?_eq_some_iff.1 hj).1
    have hi' : i < l.length := by rw [← h.count]; exact (List.getElem?_eq_some_iff.1 hi).1
    rw [Nat.zero_add, h.own.cellAt (i * K.sz + j) (by calc i * K.sz + j < i * K.sz + K.sz := by omega
                                                          _ = (i + 1) * K.sz := by rw [Nat.add_mul]; omega
                                                          _ ≤ l.length * K.sz := Nat.mul_le_mul_right _ (by omega)), flat_get K.sz csl h.len4 i j cs hi hjs]
    exact hj
end
end Go.Proofs.YtmiinmndbkdjbaaGreat

/- Objects beside each other in memory: each owns some blocks and stays what it is while the others are written. -/
namespace Go.Proofs.YtmiinmndbkdjbaaGreat
set_option linter.unusedVariables false
set_option linter.unusedSimpArgs false
open Go.RowKit
/-- An object: the blocks that it owns, and what is said of the world, where nothing of it lies in the blocks of X. -/
structure Ob where
  own : List Nat
  P : World → List Nat → Prop
  st : ∀ {w w' : World} {X Y X' : List Nat}, P w X → Kept Y w w' → (∀ b ∈ Y, b ∈ X) → (∀ b ∈ X', (b ∈ X ∨ w.heap.size ≤ b) ∧ b < w'.heap.size) → P w' X'
  lt : ∀ {w : World} {X : List Nat}, P w X → ∀ b ∈ own, b < w.heap.size
def owns : List Ob → List Nat
  | [] => []
  | o :: t => o.own ++ owns t
def others (fam : List Ob) (i : Nat) : List Nat := (List.range fam.length).flatMap fun j => if j = i then [] else ((fam[j]?).map Ob.own).getD []
def Sep (w : World) (fam : List Ob) : Prop := ∀ (i : Nat) (o : Ob), fam[i]? = some o → o.P w (others fam i)
theorem mem_owns {fam : List Ob} {b : Nat} : b ∈ owns fam ↔ ∃ (j : Nat) (o : Ob), fam[j]? = some o ∧ b ∈ o.own := by
  induction fam with
  | nil => simp [owns]
  | cons x t ih =>
    rw [owns, List.mem_append, ih]
    constructor
    · rintro (h | ⟨j, o, hj, hb⟩)
      · exact ⟨0, x, rfl, h⟩
      · exact ⟨j + 1, o, by simpa using hj, hb⟩
    · rintro ⟨j, o, hj, hb⟩
      cases j with
      | zero => simp at hj; subst hj; exact .inl hb
      | succ j => exact .inr ⟨j, o, by simpa using hj, hb⟩
theorem mem_others {fam : List Ob} {i b : Nat} : b ∈ others fam i ↔ ∃ (j : Nat) (o : Ob), j ≠ i ∧ fam[j]? = some o ∧ b ∈ o.own := by
  unfold others
  rw [List.mem_flatMap]
  constructor
  · rintro ⟨j, hj, hb⟩
    split at hb
    · cases hb
    · rename_i hne
      cases ho : fam[j]? with
      | none => rw [ho] at hb; cases hb
      | some o => rw [ho] at hb; exact ⟨j, o, hne, ho, hb⟩
  · rintro ⟨j, o, hne, ho, hb⟩
    exact ⟨j, List.mem_range.2 (List.getElem?_eq_some_iff.1 ho).1, by rw [if_neg hne, ho]; exact hb⟩
section
variable {w w' : World} {fam : List Ob} {o o' : Ob} {i : Nat} {Y : List Nat}
theorem Sep.nil (w : World) : Sep w [] := fun i o h => by simp at h
theorem Sep.lt (h : Sep w fam) : ∀ b ∈ owns fam, b < w.heap.size := by
  intro b hb
  obtain ⟨j, o, hj, hb⟩ := mem_owns.1 hb
  exact o.lt (h j o hj) b hb
theorem Sep.at (h : Sep w fam) (i : Nat) {o : Ob} (hi : fam[i]? = some o) : o.P w (others fam i) := h i o hi
/-- All others stay, one turns. -/
theorem Sep.set_ (h : Sep w fam) (i : Nat) {o o' : Ob} (hi : fam[i]? = some o) (k : Kept Y w w') (hY : ∀ b ∈ Y, b ∈ o.own ∨ w.heap.size ≤ b) (hown : ∀ b ∈ o'.own, b ∈ o.own ∨ w.heap.size ≤ b) (hP : o'.P w' (others fam i)) : Sep w' (fam.set i o') := by
  have hil : i < fam.length := (List.getElem?_eq_some_iff.1 hi).1
  intro j oj hj
  by_cases hji : j = i
  · subst hji
    rw [List.getElem?_set_self hil] at hj
    injection hj with hj
    subst hj
    have e : others (fam.set j o') j = others fam j := by
      unfold others
      rw [List.length_set]
      congr 1
      funext k
      by_cases hk : k = j
      · rw [if_pos hk, if_pos hk]
      · rw [if_neg hk, if_neg hk, List.getElem?_set_ne (fun e => hk e.symm)]
    rw [e]
    exact hP
  · rw [List.getElem?_set_ne (fun e => hji e.symm)] at hj
    have hk' : Kept (Y.filter fun b => decide (b < w.heap.size)) w w' := ⟨k.1, fun b hb hx => k.2 b hb (fun hm => hx (List.mem_filter.2 ⟨hm, by simpa using hb⟩))⟩
    refine oj.st (h j oj hj) hk' (fun b hb => ?_) (fun b hb => ?_)
    · obtain ⟨h1, h2⟩ := List.mem_filter.1 hb
      rcases hY b h1 with h3 | h3
      · exact mem_others.2 ⟨i, o, fun e => hji e.symm, hi, h3⟩
      · simp at h2; omega
    · obtain ⟨m, om, hm, hom, hbm⟩ := mem_others.1 hb
      by_cases hmi : m = i
      · subst hmi
        rw [List.getElem?_set_self hil] at hom
        injection hom with hom
        subst hom
        exact ⟨or_map (hown b hbm) (fun h1 => mem_others.2 ⟨m, o, hm, hi, h1⟩) id, o'.lt hP b hbm⟩
      · rw [List.getElem?_set_ne (fun e => hmi e.symm)] at hom
        exact ⟨.inl (mem_others.2 ⟨m, om, hm, hom, hbm⟩), Nat.lt_of_lt_of_le (om.lt (h m om hom) b hbm) k.1⟩
/-- Nothing of them is written. -/
theorem Sep.kept (h : Sep w fam) (k : Kept [] w w') : Sep w' fam := by
  intro j oj hj
  refine oj.st (h j oj hj) k (fun b hb => by cases hb) (fun b hb => ⟨.inl hb, ?_⟩)
  obtain ⟨m, om, hm, hom, hbm⟩ := mem_others.1 hb
  exact Nat.lt_of_lt_of_le (om.lt (h m om hom) b hbm) k.1
theorem Sep.below (h : Sep w fam) (k : Below w.heap.size w w') : Sep w' fam := h.kept (Kept.of_below k [])
theorem Sep.drew (h : Sep w fam) : Sep w.drew fam := h.below (Below.refl _ _).drew
theorem Sep.alloc (h : Sep w fam) (ob : Obj) : Sep (w.alloc ob) fam := h.kept (Kept.alloc w ob [])
/-- Another one comes, in new blocks or in none. -/
theorem Sep.cons (h : Sep w fam) (k : Kept [] w w') (hown : ∀ b ∈ o.own, w.heap.size ≤ b) (hP : o.P w' (owns fam)) : Sep w' (o :: fam) := by
  intro j oj hj
  cases j with
  | zero =>
    simp at hj
    subst hj
    refine o.st hP (Kept.refl w' []) (fun b hb => by cases hb) (fun b hb => ?_)
    obtain ⟨m, om, hm, hom, hbm⟩ := mem_others.1 hb
    cases m with
    | zero => exact absurd rfl hm
    | succ m =>
      have hom' : fam[m]? = some om := by simpa using hom
      exact ⟨.inl (mem_owns.2 ⟨m, om, hom', hbm⟩), Nat.lt_of_lt_of_le (om.lt (h m om hom') b hbm) k.1⟩
  | succ j =>
    have hj' : fam[j]? = some oj := by simpa using hj
    refine oj.st (h j oj hj') k (fun b hb => by cases hb) (fun b hb => ?_)
    obtain ⟨m, om, hm, hom, hbm⟩ := mem_others.1 hb
    cases m with
    | zero =>
      simp at hom
      subst hom
      exact ⟨.inr (hown b hbm), o.lt hP b hbm⟩
    | succ m =>
      have hom' : fam[m]? = some om := by simpa using hom
      exact ⟨.inl (mem_others.2 ⟨m, om, fun e => hm (by rw [e]), hom', hbm⟩), Nat.lt_of_lt_of_le (om.lt (h m om hom') b hbm) k.1⟩
/-- One that owns nothing comes. -/
theorem Sep.add (h : Sep w fam) (hown : o.own = []) (hP : o.P w (owns fam)) : Sep w (o :: fam) := h.cons (Kept.refl w []) (fun b hb => by rw [hown] at hb; cases hb) hP
/-- One is left out of sight. -/
theorem Sep.drop (h : Sep w fam) (i : Nat) : Sep w (fam.eraseIdx i) := by
  intro j oj hj
  rw [List.getElem?_eraseIdx] at hj
  have key : ∀ m om, (fam.eraseIdx i)[m]? = some om → fam[if m < i then m else m + 1]? = some om := by
    intro m om hm
    rw [List.getElem?_eraseIdx] at hm
    by_cases hmi : m < i
    · rw [if_pos hmi] at hm ⊢; exact hm
    · rw [if_neg hmi] at hm ⊢; exact hm
  have hj' : fam[if j < i then j else j + 1]? = some oj := by
    by_cases hmi : j < i
    · rw [if_pos hmi] at hj ⊢; exact hj
    · rw [if_neg hmi] at hj ⊢; exact hj
  refine oj.st (h _ oj hj') (Kept.refl w []) (fun b hb => by cases hb) (fun b hb => ?_)
  obtain ⟨m, om, hm, hom, hbm⟩ := mem_others.1 hb
  have hom' := key m om hom
  refine ⟨.inl (mem_others.2 ⟨_, om, ?_, hom', hbm⟩), om.lt (h _ om hom') b hbm⟩
  intro e
  apply hm
  split at e <;> split at e <;> omega
/-- What owns nothing keeps out of all. -/
theorem Sep.all (h : Sep w fam) (i : Nat) {o : Ob} (hi : fam[i]? = some o) (ho : o.own = []) : o.P w (owns fam) := by
  refine o.st (h i o hi) (Kept.refl w []) (fun b hb => by cases hb) (fun b hb => ?_)
  refine ⟨?_, h.lt b hb⟩
  obtain ⟨m, om, hom, hbm⟩ := mem_owns.1 hb
  by_cases hm : m = i
  · subst hm
    rw [hi] at hom
    injection hom with hom
    subst hom
    rw [ho] at hbm
    cases hbm
  · exact .inl (mem_others.2 ⟨m, om, hm, hom, hbm⟩)
end
/-- A block of cells. -/
def bx (g : Nat) (t : TypeId) (cs : Array Value) : Ob where
  own := [g]
  P := fun w X => Mem.Blk w g t cs ∧ g ∉ X
  st := fun {w w' X Y X'} h k hY hX => ⟨(k.2 g h.1.lt (fun hm => h.2 (hY g hm))).trans h.1, fun hm => by
    rcases (hX g hm).1 with h1 | h1
    · exact h.2 h1
    · have := h.1.lt; omega⟩
  lt := fun h b hb => by rw [List.mem_singleton] at hb; subst hb; exact h.1.lt
/-- A slice that grows. -/
def gr {α : Type} (K : Elt α) (e : TypeId) (base : Nat) (l : List α) (v : Value) : Ob where
  own := v.ownBlock.toList
  P := fun w X => ∃ csl, Grow K e base w X l v csl
  st := fun h k hY hX => by obtain ⟨csl, h⟩ := h; exact ⟨csl, h.to k hY hX⟩
  lt := fun h b hb => by obtain ⟨csl, h⟩ := h; rw [Option.mem_toList] at hb; exact (h.blt hb).2
/-- What is only read: cells; a slice. -/
def im {α : Type} (K : Elt α) (x : α) (cs : List Value) : Ob where
  own := []
  P := fun w X => K.R w X x cs
  st := fun h k hY hX => K.to h k hY (fun b hb => (hX b hb).1)
  lt := fun _ b hb => by cases hb
def sl {α : Type} (K : Elt α) (l : List α) (a : Option Addr) (len cap : Nat) : Ob where
  own := []
  P := fun w X => SlR K w X l a len cap
  st := fun h k hY hX => h.to k hY (fun b hb => (hX b hb).1)
  lt := fun _ b hb => by cases hb
section
variable {α : Type} {K : Elt α} {e : TypeId} {base : Nat} {w w' w2 : World} {fam : List Ob} {l : List α} {v v' : Value} {g : Nat} {t : TypeId} {cs : Array Value} {csl : List (List Value)}
theorem Sep.blk (h : Sep w fam) (i : Nat) (hi : fam[i]? = some (bx g t cs)) : Mem.Blk w g t cs := (h.at i hi).1
/-- A new block. -/
theorem Sep.new (h : Sep w fam) (t : TypeId) (cs : Array Value) : Sep (w.alloc (.cells cs t)) (bx w.heap.size t cs :: fam) :=
  h.cons (o := bx w.heap.size t cs) (Kept.alloc w _ []) (fun b hb => by rw [show (bx w.heap.size t cs).own = [w.heap.size] from rfl, List.mem_singleton] at hb; omega) ⟨Mem.Blk.new w t cs, fun hm => by have := h.lt _ hm; omega⟩
/-- A store into a block. -/
theorem Sep.store (h : Sep w fam) (i : Nat) (hi : fam[i]? = some (bx g t cs)) (j : Nat) (u : Value) : Sep (w.setCell ⟨g, j, none⟩ u) (fam.set i (bx g t (cs.setIfInBounds j u))) :=
  h.set_ i hi (Kept.setCell w (X := [g]) (by simp) u) (fun b hb => .inl hb) (fun b hb => .inl hb) ⟨(h.at i hi).1.set_ j u, (h.at i hi).2⟩
/-- One element more. -/
theorem Sep.push (h : Sep w fam) (i : Nat) (hi : fam[i]? = some (gr K e base l v)) (hG : Grow K e base w (others fam i) l v csl) {x : α} {c : List Value} (hR : K.R w (owns fam) x c)
    (ho : w'.ownsRow base e K.sz v' (l.length + 1) (csl.flatten ++ c)) (hg : w.grownBy w' v.ownBlock) (hv : v'.ownBlock = v.ownBlock ∨ v'.ownBlock = some w.heap.size) : Sep w' (fam.set i (gr K e base (l ++ [x]) v')) := by
  refine h.set_ i hi (hG.row hg) (fun b hb => .inl hb) (own_next hv) ⟨_, hG.push (K.less hR (fun b _ hm => ?_)) ho hg hv⟩
  rcases busy_mem.1 hm with h1 | h1
  · exact mem_owns.2 ⟨i, _, hi, by show b ∈ v.ownBlock.toList; rw [Option.mem_toList]; exact h1⟩
  · obtain ⟨m, om, _, hom, hbm⟩ := mem_others.1 h1
    exact mem_owns.2 ⟨m, om, hom, hbm⟩
/-- A slice that no longer grows. -/
theorem Sep.still (h : Sep w fam) (i : Nat) (hi : fam[i]? = some (gr K e base l v)) : ∃ a cap, v = .slice a l.length cap ∧ SlR K w (others fam i) l a l.length cap := by
  obtain ⟨csl, hG⟩ := h.at i hi
  exact hG.slR
end
end Go.Proofs.YtmiinmndbkdjbaaGreat

/- Build: its nodes and numbers; plain. -/
namespace Go.Proofs.YtmiinmndbkdjbaaGreat
set_option linter.unusedVariables false
set_option linter.unusedSimpArgs false
open Go.RowKit
theorem cell_lt {w : World} {a : Addr} {v : Value} (h : w.cell? a = some v) : a.block < w.heap.size := by
  rcases Nat.lt_or_ge a.block w.heap.size with h1 | h1
  · exact h1
  · have : w.heap[a.block]? = none := Array.getElem?_eq_none h1
    simp [World.cell?, this] at h
/-- What was there is there behind what only makes memory. -/
theorem cell_up {w w' : World} {p : Addr} {v : Value} (h : w.cell? p = some v) (hb : Below w.heap.size w w') : w'.cell? p = some v := (hb.cell (cell_lt h)).trans h
theorem below_new (w : World) (o : Obj) : Below w.heap.size w (w.alloc o).drew := ((Below.refl w.heap.size w).alloc (Nat.le_refl _) o).drew
def ndI (n : Nat) : Int := if n < 1000 then (n : Int) else 1000
def rkI (n r : Nat) : Int := if n < 1000 then (r : Int) else 1000
theorem ndI_bd (n : Nat) : 0 ≤ ndI n ∧ ndI n ≤ 1000 := by unfold ndI; split <;> omega
theorem rkI_bd (n r : Nat) (h : r < 1000) : 0 ≤ rkI n r ∧ rkI n r ≤ 1000 := by unfold rkI; split <;> omega
/-- Of S nodes, M deep, with k within: what N and D are so far. -/
structure Cnt (k S M : Nat) (N D : Int) : Prop where
  n1 : 1 ≤ N
  n2 : N ≤ 1 + 1000 * (k : Int)
  d1 : 1 ≤ D
  d2 : D ≤ 1001
  yes : S < 1000 → N = (S : Int) ∧ D = (M : Int)
  no : 1000 ≤ S → 1000 ≤ N ∨ 1000 ≤ D
theorem Cnt.one : Cnt 0 1 1 1 1 := ⟨by omega, by omega, by omega, by omega, fun _ => ⟨rfl, rfl⟩, fun h => by omega⟩
theorem Cnt.step {k S M : Nat} {N D : Int} (h : Cnt k S M N D) {n r : Nat} (hn : 1 ≤ n) (hr : r < 1000) : Cnt (k + 1) (S + n) (max M (r + 1)) (N + ndI n) (max D (rkI n r + 1)) := by
  obtain ⟨h1, h2, h3, h4, h5, h6⟩ := h
  have b1 := ndI_bd n
  have b2 := rkI_bd n r hr
  refine ⟨by omega, by omega, by omega, by omega, fun hS => ?_, fun hS => ?_⟩
  · obtain ⟨e1, e2⟩ := h5 (by omega)
    have hn' : n < 1000 := by omega
    unfold ndI rkI
    rw [if_pos hn', if_pos hn']
    constructor <;> omega
  · by_cases hS' : 1000 ≤ S
    · rcases h6 hS' with h7 | h7
      · exact .inl (by omega)
      · exact .inr (by omega)
    · obtain ⟨e1, e2⟩ := h5 (by omega)
      by_cases hn' : n < 1000
      · left; unfold ndI; rw [if_pos hn']; omega
      · left; unfold ndI; rw [if_neg hn']; omega
theorem Cnt.great {k S M : Nat} {N D : Int} (h : Cnt k S M N D) (hM : M < 1000) (hg : 1000 ≤ N ∨ 1000 ≤ D) : ndI S = 1000 ∧ rkI S M = 1000 := by
  have : ¬ S < 1000 := fun hS => by obtain ⟨e1, e2⟩ := h.yes hS; omega
  unfold ndI rkI
  rw [if_neg this, if_neg this]
  exact ⟨rfl, rfl⟩
theorem Cnt.small {k S M : Nat} {N D : Int} (h : Cnt k S M N D) (h1 : N < 1000) (h2 : D < 1000) : ndI S = N ∧ rkI S M = D := by
  have hS : S < 1000 := by
    rcases Nat.lt_or_ge S 1000 with h3 | h3
    · exact h3
    · rcases h.no h3 with h4 | h4 <;> omega
  obtain ⟨e1, e2⟩ := h.yes hS
  unfold ndI rkI
  rw [if_pos hS, if_pos hS]
  exact ⟨e1.symm, e2.symm⟩
theorem Ex.nd_snoc (l : List Ex) (x : Ex) : Ex.nd.go (l ++ [x]) = Ex.nd.go l + x.nd := by
  induction l with
  | nil => simp [Ex.nd.go]
  | cons y t ih => simp only [List.cons_append, Ex.nd.go, ih]; omega
theorem Ex.rk_snoc (l : List Ex) (x : Ex) : Ex.rk.go (l ++ [x]) = max (Ex.rk.go l) x.rk := by
  induction l with
  | nil => simp [Ex.rk.go]
  | cons y t ih => simp only [List.cons_append, Ex.rk.go, ih]; omega
theorem Te.nd_snoc (l : List Te) (x : Te) : Te.nd.go (l ++ [x]) = Te.nd.go l + x.nd := by
  induction l with
  | nil => simp [Te.nd.go]
  | cons y t ih => simp only [List.cons_append, Te.nd.go, ih]; omega
theorem Te.rk_snoc (l : List Te) (x : Te) : Te.rk.go (l ++ [x]) = max (Te.rk.go l) x.rk := by
  induction l with
  | nil => simp [Te.rk.go]
  | cons y t ih => simp only [List.cons_append, Te.rk.go, ih]; omega
theorem Ex.rk_go_le {l : List Ex} {b : Nat} (h : ∀ e ∈ l, e.rk ≤ b) : Ex.rk.go l ≤ b := by
  induction l with
  | nil => simp [Ex.rk.go]
  | cons y t ih =>
    simp only [Ex.rk.go]
    have h1 := h y (by simp)
    have h2 := ih (fun e he => h e (by simp [he]))
    omega
theorem Te.rk_go_le {l : List Te} {b : Nat} (h : ∀ e ∈ l, e.rk ≤ b) : Te.rk.go l ≤ b := by
  induction l with
  | nil => simp [Te.rk.go]
  | cons y t ih =>
    simp only [Te.rk.go]
    have h1 := h y (by simp)
    have h2 := ih (fun e he => h e (by simp [he]))
    omega
theorem Ex.nd_pos' (e : Ex) : 1 ≤ e.nd := by cases e; simp only [Ex.nd]; omega
theorem Te.nd_pos' (e : Te) : 1 ≤ e.nd := by cases e; simp only [Te.nd]; omega
theorem max_if (a b : Int) : (if a < b then b else a) = max a b := by split <;> omega
theorem Cnt.push {args : List Ex} {x : Ex} {N D : Int} (h : Cnt args.length (1 + Ex.nd.go args) (1 + Ex.rk.go args) N D) (hr : x.rk < 1000) :
    Cnt (args ++ [x]).length (1 + Ex.nd.go (args ++ [x])) (1 + Ex.rk.go (args ++ [x])) (N + ndI x.nd) (if D < rkI x.nd x.rk + 1 then rkI x.nd x.rk + 1 else D) := by
  have h1 := h.step x.nd_pos' hr
  rw [max_if, Ex.nd_snoc, Ex.rk_snoc, List.length_append]
  rw [show 1 + (Ex.nd.go args + x.nd) = 1 + Ex.nd.go args + x.nd by omega, show 1 + max (Ex.rk.go args) x.rk = max (1 + Ex.rk.go args) (x.rk + 1) by omega]
  exact h1
/-- A term's: its expressions first, then its terms. -/
def Te.nds (xs : List Ex) (ts : List Te) : Nat := 1 + Ex.nd.go xs + Te.nd.go ts
def Te.rks (xs : List Ex) (ts : List Te) : Nat := 1 + max (Ex.rk.go xs) (Te.rk.go ts)
theorem Cnt.pushX {xs : List Ex} {x : Ex} {k : Nat} {N D : Int} (h : Cnt k (Te.nds xs []) (Te.rks xs []) N D) (hr : x.rk < 1000) :
    Cnt (k + 1) (Te.nds (xs ++ [x]) []) (Te.rks (xs ++ [x]) []) (N + ndI x.nd) (if D < rkI x.nd x.rk + 1 then rkI x.nd x.rk + 1 else D) := by
  have h1 := h.step x.nd_pos' hr
  unfold Te.nds Te.rks at *
  rw [max_if, Ex.nd_snoc, Ex.rk_snoc]
  simp only [Te.nd.go, Te.rk.go] at *
  rw [show 1 + (Ex.nd.go xs + x.nd) + 0 = 1 + Ex.nd.go xs + 0 + x.nd by omega, show 1 + max (max (Ex.rk.go xs) x.rk) 0 = max (1 + max (Ex.rk.go xs) 0) (x.rk + 1) by omega]
  exact h1
theorem Cnt.pushT {xs : List Ex} {ts : List Te} {x : Te} {k : Nat} {N D : Int} (h : Cnt k (Te.nds xs ts) (Te.rks xs ts) N D) (hr : x.rk < 1000) :
    Cnt (k + 1) (Te.nds xs (ts ++ [x])) (Te.rks xs (ts ++ [x])) (N + ndI x.nd) (if D < rkI x.nd x.rk + 1 then rkI x.nd x.rk + 1 else D) := by
  have h1 := h.step x.nd_pos' hr
  unfold Te.nds Te.rks at *
  rw [max_if, Te.nd_snoc, Te.rk_snoc]
  rw [show 1 + Ex.nd.go xs + (Te.nd.go ts + x.nd) = 1 + Ex.nd.go xs + Te.nd.go ts + x.nd by omega, show 1 + max (Ex.rk.go xs) (max (Te.rk.go ts) x.rk) = max (1 + max (Ex.rk.go xs) (Te.rk.go ts)) (x.rk + 1) by omega]
  exact h1
/-- The nodes that come in. -/
structure Lf where
  op : Int
  n : Int
  nm : ByteArray
  kids : List Int
structure Kn where
  op : Int
  nm : ByteArray
  exprs : List Int
  terms : List Int
def lfK : Elt Lf where
  sz := 4
  pos := by decide
  R := fun w X x cs => ∃ a cap, cs = [.int .i64 x.op, .int .i64 x.n, .string x.nm, .slice a x.kids.length cap] ∧ I64 x.op ∧ I64 x.n ∧ x.nm.size ≤ 9223372036854775807 ∧ SlR i64K w X x.kids a x.kids.length cap
  kept := fun h k => by obtain ⟨a, cap, rfl, h1, h2, h3, h4⟩ := h; exact ⟨a, cap, rfl, h1, h2, h3, h4.kept k⟩
  less := fun h k => by obtain ⟨a, cap, rfl, h1, h2, h3, h4⟩ := h; exact ⟨a, cap, rfl, h1, h2, h3, h4.less k⟩
  one := fun h => by obtain ⟨a, cap, rfl, h1, h2, h3, h4⟩ := h; exact ⟨rfl, by simp [Value.oneCell']⟩
def knK : Elt Kn where
  sz := 4
  pos := by decide
  R := fun w X x cs => ∃ a cap a' cap', cs = [.int .i64 x.op, .string x.nm, .slice a x.exprs.length cap, .slice a' x.terms.length cap'] ∧ I64 x.op ∧ x.nm.size ≤ 9223372036854775807 ∧ SlR i64K w X x.exprs a x.exprs.length cap ∧ SlR i64K w X x.terms a' x.terms.length cap'
  kept := fun h k => by obtain ⟨a, cap, a', cap', rfl, h1, h2, h3, h4⟩ := h; exact ⟨a, cap, a', cap', rfl, h1, h2, h3.kept k, h4.kept k⟩
  less := fun h k => by obtain ⟨a, cap, a', cap', rfl, h1, h2, h3, h4⟩ := h; exact ⟨a, cap, a', cap', rfl, h1, h2, h3.less k, h4.less k⟩
  one := fun h => by obtain ⟨a, cap, a', cap', rfl, h1, h2, h3, h4⟩ := h; exact ⟨rfl, by simp [Value.oneCell']⟩
def nds (es : List Ex) : List Int := es.map fun e => ndI e.nd
def rks (es : List Ex) : List Int := es.map fun e => rkI e.nd e.rk
def ndsT (ts : List Te) : List Int := ts.map fun e => ndI e.nd
def rksT (ts : List Te) : List Int := ts.map fun e => rkI e.nd e.rk
/-- The j-th element of a slice that grows: its cells, clear of all that is written. -/
theorem Sep.elt {α : Type} {K : Elt α} {e : TypeId} {base : Nat} {w : World} {fam : List Ob} {l : List α} {v : Value} (h : Sep w fam) (i : Nat) (hi : fam[i]? = some (gr K e base l v)) (j : Nat) (hj : j < l.length) :
    ∃ g cap x cs, v = .slice (some ⟨g, 0, none⟩) l.length cap ∧ l.length ≤ cap ∧ l[j]? = some x ∧ K.R w (owns fam) x cs ∧ cs.length = K.sz ∧ ∀ m c, m < K.sz → cs[m]? = some c → w.cell? ⟨g, j * K.sz + m, none⟩ = some c := by
  obtain ⟨csl, hG⟩ := h.at i hi
  obtain ⟨g, cap, rfl, hg0, hg1, hg2, hob⟩ := own_form hG.own (by omega)
  have hx : l[j]? = some (l[j]'hj) := List.getElem?_eq_getElem hj
  have hc : csl[j]? = some (csl[j]'(by rw [hG.count]; exact hj)) := List.getElem?_eq_getElem (by rw [hG.count]; exact hj)
  have hR := hG.elts j _ _ hx hc
  refine ⟨g, cap, _, _, rfl, hg2, hx, K.less hR (fun b _ hm => ?_), (K.one hR).1, fun m c hm hcm => ?_⟩
  · obtain ⟨q, o, hq, hb⟩ := mem_owns.1 hm
    by_cases hqi : q = i
    · subst hqi
      rw [hi] at hq
      injection hq with hq
      subst hq
      have hb' : b ∈ (Value.slice (some ⟨g, 0, none⟩) l.length cap).ownBlock.toList := hb
      rw [Option.mem_toList] at hb'
      exact busy_mem.2 (.inl hb')
    · exact busy_mem.2 (.inr (mem_others.2 ⟨q, o, hqi, hq, hb⟩))
  · rw [hG.own.cellAt (j * K.sz + m) (by calc j * K.sz + m < j * K.sz + K.sz := by omega
                                              _ = (j + 1) * K.sz := by rw [Nat.add_mul]; omega
                                              _ ≤ l.length * K.sz := Nat.mul_le_mul_right _ (by omega)), flat_get K.sz csl hG.len4 j m _ hc hm]
    exact hcm
/-- What a slice that grows is, as a value. -/
theorem Sep.form {α : Type} {K : Elt α} {e : TypeId} {base : Nat} {w : World} {fam : List Ob} {l : List α} {v : Value} (h : Sep w fam) (i : Nat) (hi : fam[i]? = some (gr K e base l v)) : ∃ a cap, v = .slice a l.length cap := by
  obtain ⟨a, cap, hv, _⟩ := h.still i hi
  exact ⟨a, cap, hv⟩
end Go.Proofs.YtmiinmndbkdjbaaGreat

/- Are two trees, two texts, two lists one? -/
namespace Go.Proofs.YtmiinmndbkdjbaaGreat
set_option linter.unusedVariables false
set_option linter.unusedSimpArgs false
open Go.RowKit
open Classical in
noncomputable def eqv {α : Type} (a b : α) : Bool := decide (a = b)
open Classical in
theorem eqv_yes {α : Type} {a b : α} (h : a = b) : eqv a b = true := by unfold eqv; exact decide_eq_true h
open Classical in
theorem eqv_no {α : Type} {a b : α} (h : a ≠ b) : eqv a b = false := by unfold eqv; exact decide_eq_false h
open Classical in
theorem eqv_iff {α : Type} {a b : α} : eqv a b = true ↔ a = b := by unfold eqv; exact decide_eq_true_iff
theorem list_ne {α : Type} {l l' : List α} {k : Nat} {x y : α} (h : l[k]? = some x) (h' : l'[k]? = some y) (hne : x ≠ y) : l ≠ l' := by
  rintro rfl; rw [h] at h'; injection h' with h'; exact hne h'
theorem list_eq_of {α : Type} {l l' : List α} (hl : l.length = l'.length) (h : ∀ (j : Nat) x, j < l.length → l[j]? = some x → l'[j]? = some x) : l = l' := by
  apply List.ext_getElem? 
  intro j
  rcases Nat.lt_or_ge j l.length with hj | hj
  · have := List.getElem?_eq_getElem hj
    rw [this, h j _ hj this]
  · rw [List.getElem?_eq_none hj, List.getElem?_eq_none (by omega)]
theorem tl_ne {s s' : ByteArray} (h : s ≠ s') : (s.toList == s'.toList) = false := by
  rw [beq_eq_false_iff_ne]
  intro he
  rw [ByteArray.toList_eq, ByteArray.toList_eq] at he
  apply h
  cases s; cases s'
  simp at he
  rw [he]
theorem Te.rk_pos' (e : Te) : 1 ≤ e.rk := by cases e; simp only [Te.rk]; omega
theorem eqT {op : Int} {nm : ByteArray} {x x2 : List Ex} {t t2 : List Te} : eqv (Te.mk op nm x t) (Te.mk op nm x2 t2) = (eqv x x2 && eqv t t2) := by
  rw [Bool.eq_iff_iff, Bool.and_eq_true, eqv_iff, eqv_iff, eqv_iff]
  constructor
  · intro h; injection h with _ _ h1 h2; exact ⟨h1, h2⟩
  · rintro ⟨rfl, rfl⟩; rfl
end Go.Proofs.YtmiinmndbkdjbaaGreat
