/- The contract of sizeExpr; condition: the expression is less than 1000 deep. -/
import Derived.Test.YtjpkljkmignnjaaSize
import Derived.IntWalk
namespace Go.Proofs.Ytjpkljkmignnjaa
set_option linter.unusedVariables false
set_option linter.unusedSimpArgs false
open Go.RowKit
/-- What is told of so many nodes, so deep. -/
def SizeIs (nd rk : Nat) (x : Ending) : Prop := ∃ d : Int, x = .returned (.agg #[.int .i64 (min (nd : Int) 1000), .int .i64 d]) ∧ 0 ≤ d ∧ d ≤ 1000 ∧ (nd < 1000 → d = rk)
theorem Ex.rk_pos (e : Ex) : 1 ≤ e.rk := by cases e; simp only [Ex.rk]; omega
theorem Ex.nd_pos (e : Ex) : 1 ≤ e.nd := by cases e; simp only [Ex.nd]; omega
set_option maxRecDepth 100000 in
set_option maxHeartbeats 800000 in
theorem sizeExpr_any : ∀ (r : Nat) (e : Ex), e.rk ≤ r → ∀ (cs : List Value) (at_ : Int) (w : World), RepE w [] e cs → 0 ≤ at_ → at_ + e.rk ≤ 1000 →
    Calls Try.prog 31 #[.agg cs.toArray, .int .i64 at_] w fun x w' => SizeIs e.nd e.rk x ∧ Below w.heap.size w w' := by
  intro r
  induction r with
  | zero => intro e h; have := e.rk_pos; omega
  | succ r ih =>
    intro e hr cs at_ w hR h0 h1
    have IH := Lib.hid ih
    clear ih
    obtain ⟨op, n, nm, args, a, len, cap, rfl, rfl, i1, i2, i3, hS⟩ := hR.inv
    have HS := Lib.hid hS
    obtain ⟨f1, f2, f3⟩ := hS.facts
    have HL := Lib.hid f1
    have HR := Lib.hid hr
    have HND := Lib.hid (show (Ex.mk op n nm args).nd = 1 + Ex.nd.go args from rfl)
    have HRK := Lib.hid (show (Ex.mk op n nm args).rk = 1 + Ex.rk.go args from rfl)
    have HEL := Lib.hid (fun (k : Nat) (e : Ex) (h : args[k]? = some e) => Ex.rk_lt (op := op) (n := n) (nm := nm) h)
    generalize (Ex.mk op n nm args).nd = ND at *
    generalize (Ex.mk op n nm args).rk = RK at *
    have T := Lib.hid (((((Below.refl _ w).alloc (Nat.le_refl _) (.cells #[.int .i64 op, .int .i64 n, .string nm, .slice a len cap] 38)).alloc (by simp) (.cells #[.int .i64 0, .int .i64 0] 57)).alloc (by simp; omega) (.cells #[.int .i64 1, .int .i64 1] 57)) : Below w.heap.size w _)
    have TB := Lib.hid (Mem.Blk.new ((w.alloc (.cells #[.int .i64 op, .int .i64 n, .string nm, .slice a len cap] 38)).alloc (.cells #[.int .i64 0, .int .i64 0] 57)) 57 #[.int .i64 1, .int .i64 1])
    have TR := Lib.hid ((Mem.Blk.new (w.alloc (.cells #[.int .i64 op, .int .i64 n, .string nm, .slice a len cap] 38)) 57 #[.int .i64 0, .int .i64 0]).alloc (.cells #[.int .i64 1, .int .i64 1] 57))
    have e1 : (w.alloc (.cells #[.int .i64 op, .int .i64 n, .string nm, .slice a len cap] 38)).heap.size = w.heap.size + 1 := by simp
    have e2 : ((w.alloc (.cells #[.int .i64 op, .int .i64 n, .string nm, .slice a len cap] 38)).alloc (.cells #[.int .i64 0, .int .i64 0] 57)).heap.size = w.heap.size + 1 + 1 := by simp
    rw [e1] at TR
    rw [e2] at TB
    clear i1 i2 i3 f1 hr hR hS e1 e2
    go_enter Try.func31, Try.ntmps31
    go_wp2_with fail
    go_loopw [12] (fun i wr => ∃ (k : Nat) (d : Int), i = .int .i64 (k : Nat) ∧ k ≤ len ∧ Hid (Below w.heap.size w wr) ∧ Hid (Mem.Blk wr (w.heap.size + 1) 57 #[.int .i64 0, .int .i64 0]) ∧
      Hid (Mem.Blk wr (w.heap.size + 1 + 1) 57 #[.int .i64 (min ((1 + Ex.nd.go (args.take k) : Nat) : Int) 1000), .int .i64 d]) ∧ 0 ≤ d ∧ d ≤ 1000 ∧ Hid (1 + Ex.nd.go (args.take k) < 1000 → d = ((1 + Ex.rk.go (args.take k) : Nat) : Int))) (fun i _ => len - (intOf i).toNat)
    case atStart => exact ⟨0, 1, rfl, Nat.zero_le _, T.out, TR.out, TB.out, by omega, by omega, fun _ => rfl⟩
    case round =>
      obtain ⟨k, d, rfl, hk, HW, HA, HB, d0, d1, HD⟩ := hrel
      have hBlt := HB.out.lt
      have hAlt := HA.out.lt
      obtain ⟨p1, p2, p3, p4⟩ := HA.out.two
      obtain ⟨q1, q2, q3, q4⟩ := HB.out.two
      by_cases hlt : k < len
      · obtain ⟨b, o, op', n', nm', args', a', len', cap', rfl, hb, hbx, hle, j1, j2, j3, hS', g0, g1, g2, g3⟩ := (HS.out.kept (Kept.of_below HW.out [])).at k hlt
        have hel := HEL.out k _ hle
        have hat : at_ < 1000 := by have := Ex.rk_pos (Ex.mk op' n' nm' args'); omega
        have hat2 : at_ + 1 ≤ 1000 := by omega
        have hN := Ex.nd_take hle
        have hK := Ex.rk_take hle
        have hmx := Ex.nd_le args (k + 1)
        have hx0 : (0 : Int) ≤ min ((1 + Ex.nd.go (args.take k) : Nat) : Int) 1000 := by omega
        have hx1 : min ((1 + Ex.nd.go (args.take k) : Nat) : Int) 1000 ≤ 1000 := by omega
        by_cases hbig : 1000 ≤ 1 + Ex.nd.go (args.take k)
        · have FIN : Hid (SizeIs ND RK (.returned (.agg #[.int .i64 1000, .int .i64 1000]))) := by
            have hm : 1000 ≤ ND := by rw [HND.out]; have := Ex.nd_le args k; omega
            show SizeIs ND RK _
            exact ⟨1000, by rw [show min (ND : Int) 1000 = 1000 by omega], by omega, by omega, fun h => by omega⟩
          have hmm : (1000 : Int) ≤ min ((1 + Ex.nd.go (args.take k) : Nat) : Int) 1000 := by omega
          clear hbig hN hK hmx HD hx0 hx1
          generalize min ((1 + Ex.nd.go (args.take k) : Nat) : Int) 1000 = x at *
          go_wp2
          refine bodyPost_ret (v := .agg #[.int .i64 1000, .int .i64 1000]) (by simp [results, Try.results31, go_sem, p1, p2, hAlt]) rfl ⟨FIN.out, ?_⟩
          exact ((HW.out.setCell (by simp) _).setCell (by simp) _).alloc (by simpa [World.setCell] using HW.out.size) _
        · have hmm : min ((1 + Ex.nd.go (args.take k) : Nat) : Int) 1000 < 1000 := by omega
          have HIH := Lib.hid (fun W hW => IH.out (Ex.mk op' n' nm' args') (by have := HR.out; omega) [.int .i64 op', .int .i64 n', .string nm', .slice a' len' cap'] (at_ + 1) W (RepE.mk' j1 j2 j3 (hS'.kept hW)) (by omega) (by omega))
          have hD := Lib.hid (HD.out (by omega))
          have HN := Lib.hid hN
          have HK := Lib.hid hK
          have HX : Hid ((1 + Ex.nd.go (args.take k) : Nat) < 1000) := by show _ < _; omega
          have HXE : Hid (min ((1 + Ex.nd.go (args.take k) : Nat) : Int) 1000 = ((1 + Ex.nd.go (args.take k) : Nat) : Int)) := by show _ = _; omega
          generalize min ((1 + Ex.nd.go (args.take k) : Nat) : Int) 1000 = x at *
          generalize (Ex.mk op' n' nm' args').nd = en at *
          generalize (Ex.mk op' n' nm' args').rk = ek at *
          have hek : Hid ((ek : Int) + 1 ≤ 1000) := by show _ ≤ _; omega
          have BX := Lib.hid (Mem.Blk.new wr 38 #[.int .i64 op', .int .i64 n', .string nm', .slice a' len' cap'])
          have BA := Lib.hid (HA.out.alloc (.cells #[.int .i64 op', .int .i64 n', .string nm', .slice a' len' cap'] 38))
          have BB := Lib.hid (HB.out.alloc (.cells #[.int .i64 op', .int .i64 n', .string nm', .slice a' len' cap'] 38))
          have hkp := Lib.hid (Kept.alloc wr (.cells #[.int .i64 op', .int .i64 n', .string nm', .slice a' len' cap'] 38) [])
          have hkd : Hid (Kept [] wr (wr.alloc (.cells #[.int .i64 op', .int .i64 n', .string nm', .slice a' len' cap'] 38)).drew) := ⟨hkp.out.1, hkp.out.2⟩
          have HW2 := Lib.hid (HW.out.alloc HW.out.size (.cells #[.int .i64 op', .int .i64 n', .string nm', .slice a' len' cap'] 38))
          have hwrap : IntKind.i64.wrap (at_ + 1) = at_ + 1 := IntWalk.i64_in _ (by omega)
          clear hbig hN hK hmx HD HEL hel hS' HS
          go_wp2_with fail
          go_region_with (first
            | (go_at_call 31
               go_loud ((refine (HIH.out _ hkd.out).mono ?_; rintro y w1 ⟨⟨d', rfl, z0, z1, hd'⟩, b1⟩; obtain ⟨r1, r2, r3, r4⟩ := (BB.out.drew.below b1).two)))
            | (go_at_call 43
               refine (with_any _ _ _ _ _ ⟨hx0, hx1⟩ ⟨d0, d1⟩ ⟨by omega, by omega⟩ ⟨z0, z1⟩).mono ?_
               rintro y w2 ⟨rfl, b2⟩
               obtain ⟨r5, r6, r7, r8⟩ := ((BB.out.drew.below b1).below b2).two))
          all_goals
            have W3 := Lib.hid ((HW2.out.drew.trans (b1.mono HW2.out.size)).trans (b2.mono (HW2.out.drew.trans (b1.mono HW2.out.size)).size))
            have A3 := Lib.hid ((BA.out.drew.below b1).below b2)
            have B3 := Lib.hid ((BB.out.drew.below b1).below b2)
            have hA3 := A3.out.lt
            clear b1 b2 BA BB BX IH HIH
            have E1 : Hid (min (x + min (en : Int) 1000) 1000 = min ((1 + Ex.nd.go (args.take (k + 1)) : Nat) : Int) 1000) := by
              show _ = _; rw [HN.out, HXE.out]; omega
            have E2 : Hid (1 + Ex.nd.go (args.take (k + 1)) < 1000 → min (max d (d' + 1)) 1000 = ((1 + Ex.rk.go (args.take (k + 1)) : Nat) : Int)) := by
              intro h; rw [HK.out, hD.out]; rw [HN.out] at h; have q1 := hd' (by omega); have q2 := hek.out; have q3 := hD.out; omega
            have E3 : 0 ≤ min (max d (d' + 1)) 1000 := by omega
            have E4 : min (max d (d' + 1)) 1000 ≤ 1000 := by omega
            rw [E1.out] at *
            go_wp2
            go_roundw
            case rel => exact ⟨k + 1, min (max d (d' + 1)) 1000, by go_num, by omega, (W3.out.setCell (by simp; omega) _).setCell (by simp; omega) _, (A3.out.far (by simp) _).far (by simp) _, (B3.out.set_ 0 _).set_ 1 _, E3, E4, E2.out⟩
            case measure => simp [intOf]; omega
      · have hke : k = len := by omega
        subst hke
        have FIN : Hid (SizeIs ND RK (.returned (.agg #[.int .i64 (min ((1 + Ex.nd.go (args.take k) : Nat) : Int) 1000), .int .i64 d]))) := by
          have e : args.take k = args := List.take_of_length_le (by rw [HL.out]; exact Nat.le_refl _)
          have hd := HD.out
          rw [e] at hd ⊢
          show SizeIs ND RK _
          exact ⟨d, by rw [HND.out], d0, d1, fun h => by rw [HND.out] at h; rw [HRK.out]; exact hd h⟩
        clear HD hlt
        generalize min ((1 + Ex.nd.go (args.take k) : Nat) : Int) 1000 = x at *
        go_wp2
        refine bodyPost_ret (v := .agg #[.int .i64 x, .int .i64 d]) (by simp [results, Try.results31, go_sem, p1, p2, hAlt]) rfl ⟨FIN.out, ?_⟩
        exact (HW.out.setCell (by simp) _).setCell (by simp) _
end Go.Proofs.Ytjpkljkmignnjaa
