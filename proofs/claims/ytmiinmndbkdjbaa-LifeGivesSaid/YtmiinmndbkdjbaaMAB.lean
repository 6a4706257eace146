/- A part of the proof: Size, SizeE, SizeT, BuiltT, Row, Ap, Gro, one behind another. -/
import Derived.Test.YtmiinmndbkdjbaaMAA
import Derived.Test.YtmiinmndbkdjbaaProg
import Derived.Test.YtmiinmndbkdjbaaChecked
import Derived.LoopTactic
import Derived.WalkLawsBesides
import Derived.BigQuiet
import Derived.Deep.RegionWith
import Derived.IntWalk
import Derived.WalkSpells
import Derived.Deep.RegionHeld3
/- Contracts of sizes: with, small, told, sizeExpr, sizeTerm, Size; condition: the tree is less than 1000 deep. -/
namespace Go.Proofs.Ytmiinmndbkdjbaa
set_option linter.unusedVariables false
set_option linter.unusedSimpArgs false
open Go.RowKit
def sz2 (a b : Int) : Value := .agg #[.int .i64 a, .int .i64 b]
theorem with_any (a b c d : Int) (w : World) (ha : 0 ≤ a ∧ a ≤ 1000) (hb : 0 ≤ b ∧ b ≤ 1000) (hc : 0 ≤ c ∧ c ≤ 1000) (hd : 0 ≤ d ∧ d ≤ 1000) :
    Calls Try.prog 37 #[.agg #[.int .i64 a, .int .i64 b], .agg #[.int .i64 c, .int .i64 d]] w fun e w' => e = .returned (.agg #[.int .i64 (min (a + c) 1000), .int .i64 (min (max b (d + 1)) 1000)]) ∧ Below w.heap.size w w' := by
  obtain ⟨a0, a1⟩ := ha
  obtain ⟨b0, b1⟩ := hb
  obtain ⟨c0, c1⟩ := hc
  obtain ⟨d0, d1⟩ := hd
  go_enter Try.func37, Try.ntmps37
  go_wp2
  all_goals
    refine bodyPost_ret (v := .agg #[.int .i64 (min (a + c) 1000), .int .i64 (min (max b (d + 1)) 1000)]) (by simp [results, Try.results37, go_sem] <;> omega) rfl ⟨rfl, ?_⟩
    exact (((Below.refl _ _).alloc (Nat.le_refl _) _).alloc (by simp) _).alloc (by simp; omega) _
theorem small_size_any (a b : Int) (w : World) : Calls Try.prog 30 #[.agg #[.int .i64 a, .int .i64 b]] w fun e w' => e = .returned (.bool (decide (a ≤ 200) && decide (b ≤ 16))) ∧ Below w.heap.size w w' := by
  by_cases h : a ≤ 200
  · go_enter Try.func30, Try.ntmps30
    go_wp2
    go_ret
    exact ⟨by rw [decide_eq_true h]; rfl, (Below.refl _ _).alloc (Nat.le_refl _) _⟩
  · go_enter Try.func30, Try.ntmps30
    go_wp2
    go_ret
    exact ⟨by rw [decide_eq_false (show ¬ a ≤ 200 by omega)]; rfl, (Below.refl _ _).alloc (Nat.le_refl _) _⟩
def tld (a b : Int) : Bool := decide (a < 1000 ∧ b < 1000)
theorem told_size_any (a b : Int) (w : World) : Calls Try.prog 20 #[.agg #[.int .i64 a, .int .i64 b]] w fun e w' => e = .returned (.tuple #[.int .i64 (if tld a b then a else 1000), .int .i64 (if tld a b then b else 1000)]) ∧ Below w.heap.size w w' := by
  by_cases h : a < 1000 ∧ b < 1000
  · have e : tld a b = true := by unfold tld; simpa using h
    rw [e]
    obtain ⟨h1, h2⟩ := h
    clear e
    go_enter Try.func20, Try.ntmps20
    go_wp2
    all_goals
      go_quiet (fail)
      go_wp2
      go_ret2
      exact ⟨rfl, below_drewN ((Below.refl _ _).alloc (Nat.le_refl _) _) _⟩
  · have e : tld a b = false := by unfold tld; simpa using h
    rw [e]
    clear e
    have hm : (1000 : Int) ≤ max a b := by omega
    go_enter Try.func20, Try.ntmps20
    go_wp2
    all_goals
      go_ret2
      exact ⟨rfl, (Below.refl _ _).alloc (Nat.le_refl _) _⟩
end Go.Proofs.Ytmiinmndbkdjbaa

/- The contract of sizeExpr; condition: the expression is less than 1000 deep. -/
namespace Go.Proofs.Ytmiinmndbkdjbaa
set_option linter.unusedVariables false
set_option linter.unusedSimpArgs false
open Go.RowKit
/-- What is told of so many nodes, so deep. -/
def SizeIs (nd rk : Nat) (x : Ending) : Prop := ∃ d : Int, x = .returned (.agg #[.int .i64 (min (nd : Int) 1000), .int .i64 d]) ∧ 0 ≤ d ∧ d ≤ 1000 ∧ (nd < 1000 → d = rk)
theorem Ex.rk_pos (e : Ex) : 1 ≤ e.rk := by cases e; simp only [Ex.rk]; omega
theorem Ex.nd_pos (e : Ex) : 1 ≤ e.nd := by cases e; simp only [Ex.nd]; omega
set_option maxRecDepth 100000 in
set_option maxHeartbeats 800000 in
theorem sizeExpr_any : ∀ (r : Nat) (e : Ex), e.rk ≤ r → ∀ (cs : List Value) (at_ : Int) (w : World), RepE w [] e cs → 0 ≤ at_ → at_ + e.rk ≤ 1000 →
    Calls Try.prog 38 #[.agg cs.toArray, .int .i64 at_] w fun x w' => SizeIs e.nd e.rk x ∧ Below w.heap.size w w' := by
  intro r
  induction r with
  | zero => intro e h; have := e.rk_pos; omega
  | succ r ih =>
    intro e hr cs at_ w hR h0 h1
    have IH := Lib.hid ih
    clear ih
    obtain ⟨op, n, nm, args, a, len, cap, rfl, rfl, i1, i2, i3, hS⟩ := hR.inv
    have HS := Lib.hid hS
    obtain ⟨f1, f2, f3⟩ := hS.facts
    have HL := Lib.hid f1
    have HR := Lib.hid hr
    have HND := Lib.hid (show (Ex.mk op n nm args).nd = 1 + Ex.nd.go args from rfl)
    have HRK := Lib.hid (show (Ex.mk op n nm args).rk = 1 + Ex.rk.go args from rfl)
    have HEL := Lib.hid (fun (k : Nat) (e : Ex) (h : args[k]? = some e) => Ex.rk_lt (op := op) (n := n) (nm := nm) h)
    generalize (Ex.mk op n nm args).nd = ND at *
    generalize (Ex.mk op n nm args).rk = RK at *
    have T := Lib.hid (((((Below.refl _ w).alloc (Nat.le_refl _) (.cells #[.int .i64 op, .int .i64 n, .string nm, .slice a len cap] 53)).alloc (by simp) (.cells #[.int .i64 0, .int .i64 0] 62)).alloc (by simp; omega) (.cells #[.int .i64 1, .int .i64 1] 62)) : Below w.heap.size w _)
    have TB := Lib.hid (Mem.Blk.new ((w.alloc (.cells #[.int .i64 op, .int .i64 n, .string nm, .slice a len cap] 53)).alloc (.cells #[.int .i64 0, .int .i64 0] 62)) 62 #[.int .i64 1, .int .i64 1])
    have TR := Lib.hid ((Mem.Blk.new (w.alloc (.cells #[.int .i64 op, .int .i64 n, .string nm, .slice a len cap] 53)) 62 #[.int .i64 0, .int .i64 0]).alloc (.cells #[.int .i64 1, .int .i64 1] 62))
    have e1 : (w.alloc (.cells #[.int .i64 op, .int .i64 n, .string nm, .slice a len cap] 53)).heap.size = w.heap.size + 1 := by simp
    have e2 : ((w.alloc (.cells #[.int .i64 op, .int .i64 n, .string nm, .slice a len cap] 53)).alloc (.cells #[.int .i64 0, .int .i64 0] 62)).heap.size = w.heap.size + 1 + 1 := by simp
    rw [e1] at TR
    rw [e2] at TB
    clear i1 i2 i3 f1 hr hR hS e1 e2
    go_enter Try.func38, Try.ntmps38
    go_wp2_with fail
    go_loopw [12] (fun i wr => ∃ (k : Nat) (d : Int), i = .int .i64 (k : Nat) ∧ k ≤ len ∧ Hid (Below w.heap.size w wr) ∧ Hid (Mem.Blk wr (w.heap.size + 1) 62 #[.int .i64 0, .int .i64 0]) ∧
      Hid (Mem.Blk wr (w.heap.size + 1 + 1) 62 #[.int .i64 (min ((1 + Ex.nd.go (args.take k) : Nat) : Int) 1000), .int .i64 d]) ∧ 0 ≤ d ∧ d ≤ 1000 ∧ Hid (1 + Ex.nd.go (args.take k) < 1000 → d = ((1 + Ex.rk.go (args.take k) : Nat) : Int))) (fun i _ => len - (intOf i).toNat)
    case atStart => exact ⟨0, 1, rfl, Nat.zero_le _, T.out, TR.out, TB.out, by omega, by omega, fun _ => rfl⟩
    case round =>
      obtain ⟨k, d, rfl, hk, HW, HA, HB, d0, d1, HD⟩ := hrel
      have hBlt := HB.out.lt
      have hAlt := HA.out.lt
      obtain ⟨p1, p2, p3, p4⟩ := HA.out.two
      obtain ⟨q1, q2, q3, q4⟩ := HB.out.two
      by_cases hlt : k < len
      · obtain ⟨b, o, op', n', nm', args', a', len', cap', rfl, hb, hbx, hle, j1, j2, j3, hS', g0, g1, g2, g3⟩ := (HS.out.kept (Kept.of_below HW.out [])).at k hlt
        have hel := HEL.out k _ hle
        have hat : at_ < 1000 := by have := Ex.rk_pos (Ex.mk op' n' nm' args'); omega
        have hat2 : at_ + 1 ≤ 1000 := by omega
        have hN := Ex.nd_take hle
        have hK := Ex.rk_take hle
        have hmx := Ex.nd_le args (k + 1)
        have hx0 : (0 : Int) ≤ min ((1 + Ex.nd.go (args.take k) : Nat) : Int) 1000 := by omega
        have hx1 : min ((1 + Ex.nd.go (args.take k) : Nat) : Int) 1000 ≤ 1000 := by omega
        by_cases hbig : 1000 ≤ 1 + Ex.nd.go (args.take k)
        · have FIN : Hid (SizeIs ND RK (.returned (.agg #[.int .i64 1000, .int .i64 1000]))) := by
            have hm : 1000 ≤ ND := by rw [HND.out]; have := Ex.nd_le args k; omega
            show SizeIs ND RK _
            exact ⟨1000, by rw [show min (ND : Int) 1000 = 1000 by omega], by omega, by omega, fun h => by omega⟩
          have hmm : (1000 : Int) ≤ min ((1 + Ex.nd.go (args.take k) : Nat) : Int) 1000 := by omega
          clear hbig hN hK hmx HD hx0 hx1
          generalize min ((1 + Ex.nd.go (args.take k) : Nat) : Int) 1000 = x at *
          go_wp2
          refine bodyPost_ret (v := .agg #[.int .i64 1000, .int .i64 1000]) (by simp [results, Try.results38, go_sem, p1, p2, hAlt]) rfl ⟨FIN.out, ?_⟩
          exact ((HW.out.setCell (by simp) _).setCell (by simp) _).alloc (by simpa [World.setCell] using HW.out.size) _
        · have hmm : min ((1 + Ex.nd.go (args.take k) : Nat) : Int) 1000 < 1000 := by omega
          have HIH := Lib.hid (fun W hW => IH.out (Ex.mk op' n' nm' args') (by have := HR.out; omega) [.int .i64 op', .int .i64 n', .string nm', .slice a' len' cap'] (at_ + 1) W (RepE.mk' j1 j2 j3 (hS'.kept hW)) (by omega) (by omega))
          have hD := Lib.hid (HD.out (by omega))
          have HN := Lib.hid hN
          have HK := Lib.hid hK
          have HX : Hid ((1 + Ex.nd.go (args.take k) : Nat) < 1000) := by show _ < _; omega
          have HXE : Hid (min ((1 + Ex.nd.go (args.take k) : Nat) : Int) 1000 = ((1 + Ex.nd.go (args.take k) : Nat) : Int)) := by show _ = _; omega
          generalize min ((1 + Ex.nd.go (args.take k) : Nat) : Int) 1000 = x at *
          generalize (Ex.mk op' n' nm' args').nd = en at *
          generalize (Ex.mk op' n' nm' args').rk = ek at *
          have hek : Hid ((ek : Int) + 1 ≤ 1000) := by show _ ≤ _; omega
          have BX := Lib.hid (Mem.Blk.new wr 53 #[.int .i64 op', .int .i64 n', .string nm', .slice a' len' cap'])
          have BA := Lib.hid (HA.out.alloc (.cells #[.int .i64 op', .int .i64 n', .string nm', .slice a' len' cap'] 53))
          have BB := Lib.hid (HB.out.alloc (.cells #[.int .i64 op', .int .i64 n', .string nm', .slice a' len' cap'] 53))
          have hkp := Lib.hid (Kept.alloc wr (.cells #[.int .i64 op', .int .i64 n', .string nm', .slice a' len' cap'] 53) [])
          have hkd : Hid (Kept [] wr (wr.alloc (.cells #[.int .i64 op', .int .i64 n', .string nm', .slice a' len' cap'] 53)).drew) := ⟨hkp.out.1, hkp.out.2⟩
          have HW2 := Lib.hid (HW.out.alloc HW.out.size (.cells #[.int .i64 op', .int .i64 n', .string nm', .slice a' len' cap'] 53))
          have hwrap : IntKind.i64.wrap (at_ + 1) = at_ + 1 := IntWalk.i64_in _ (by omega)
          clear hbig hN hK hmx HD HEL hel hS' HS
          go_wp2_with fail
          go_region_with (first
            | (go_at_call 38
               go_loud ((refine (HIH.out _ hkd.out).mono ?_; rintro y w1 ⟨⟨d', rfl, z0, z1, hd'⟩, b1⟩; obtain ⟨r1, r2, r3, r4⟩ := (BB.out.drew.below b1).two)))
            | (go_at_call 37
               refine (with_any _ _ _ _ _ ⟨hx0, hx1⟩ ⟨d0, d1⟩ ⟨by omega, by omega⟩ ⟨z0, z1⟩).mono ?_
               rintro y w2 ⟨rfl, b2⟩
               obtain ⟨r5, r6, r7, r8⟩ := ((BB.out.drew.below b1).below b2).two))
          all_goals
            have W3 := Lib.hid ((HW2.out.drew.trans (b1.mono HW2.out.size)).trans (b2.mono (HW2.out.drew.trans (b1.mono HW2.out.size)).size))
            have A3 := Lib.hid ((BA.out.drew.below b1).below b2)
            have B3 := Lib.hid ((BB.out.drew.below b1).below b2)
            have hA3 := A3.out.lt
            clear b1 b2 BA BB BX IH HIH
            have E1 : Hid (min (x + min (en : Int) 1000) 1000 = min ((1 + Ex.nd.go (args.take (k + 1)) : Nat) : Int) 1000) := by
              show _ = _; rw [HN.out, HXE.out]; omega
            have E2 : Hid (1 + Ex.nd.go (args.take (k + 1)) < 1000 → min (max d (d' + 1)) 1000 = ((1 + Ex.rk.go (args.take (k + 1)) : Nat) : Int)) := by
              intro h; rw [HK.out, hD.out]; rw [HN.out] at h; have q1 := hd' (by omega); have q2 := hek.out; have q3 := hD.out; omega
            have E3 : 0 ≤ min (max d (d' + 1)) 1000 := by omega
            have E4 : min (max d (d' + 1)) 1000 ≤ 1000 := by omega
            rw [E1.out] at *
            go_wp2
            go_roundw
            case rel => exact ⟨k + 1, min (max d (d' + 1)) 1000, by go_num, by omega, (W3.out.setCell (by simp; omega) _).setCell (by simp; omega) _, (A3.out.far (by simp) _).far (by simp) _, (B3.out.set_ 0 _).set_ 1 _, E3, E4, E2.out⟩
            case measure => simp [intOf]; omega
      · have hke : k = len := by omega
        subst hke
        have FIN : Hid (SizeIs ND RK (.returned (.agg #[.int .i64 (min ((1 + Ex.nd.go (args.take k) : Nat) : Int) 1000), .int .i64 d]))) := by
          have e : args.take k = args := List.take_of_length_le (by rw [HL.out]; exact Nat.le_refl _)
          have hd := HD.out
          rw [e] at hd ⊢
          show SizeIs ND RK _
          exact ⟨d, by rw [HND.out], d0, d1, fun h => by rw [HND.out] at h; rw [HRK.out]; exact hd h⟩
        clear HD hlt
        generalize min ((1 + Ex.nd.go (args.take k) : Nat) : Int) 1000 = x at *
        go_wp2
        refine bodyPost_ret (v := .agg #[.int .i64 x, .int .i64 d]) (by simp [results, Try.results38, go_sem, p1, p2, hAlt]) rfl ⟨FIN.out, ?_⟩
        exact (HW.out.setCell (by simp) _).setCell (by simp) _
end Go.Proofs.Ytmiinmndbkdjbaa

/- The contracts of sizeTerm and Size; condition: the term is less than 1000 deep. -/
namespace Go.Proofs.Ytmiinmndbkdjbaa
set_option linter.unusedVariables false
set_option linter.unusedSimpArgs false
open Go.RowKit
/-- So many nodes, so deep, as far as they are counted. -/
def St (X Y : Nat) (x d : Int) : Prop := x = min (X : Int) 1000 ∧ 0 ≤ d ∧ d ≤ 1000 ∧ (X < 1000 → d = Y)
theorem St.step {X Y en ek : Nat} {x d x' d' : Int} (h : St X Y x d) (h' : St en ek x' d') (hek : ek + 1 ≤ 1000) : St (X + en) (max Y (ek + 1)) (min (x + x') 1000) (min (max d (d' + 1)) 1000) := by
  obtain ⟨h1, h2, h3, h4⟩ := h
  obtain ⟨g1, g2, g3, g4⟩ := h'
  subst h1 g1
  refine ⟨by omega, by omega, by omega, fun hh => ?_⟩
  have q1 := h4 (by omega)
  have q2 := g4 (by omega)
  omega
theorem St.bd {X Y : Nat} {x d : Int} (h : St X Y x d) : 0 ≤ x ∧ x ≤ 1000 ∧ 0 ≤ d ∧ d ≤ 1000 := by
  obtain ⟨h1, h2, h3, _⟩ := h
  subst h1
  omega
theorem SizeIs.st {X Y : Nat} {e : Ending} (h : SizeIs X Y e) : ∃ x d, e = .returned (.agg #[.int .i64 x, .int .i64 d]) ∧ St X Y x d := by
  obtain ⟨d, rfl, h2, h3, h4⟩ := h
  exact ⟨_, d, rfl, rfl, h2, h3, h4⟩
theorem St.is {X Y : Nat} {x d : Int} (h : St X Y x d) : SizeIs X Y (.returned (.agg #[.int .i64 x, .int .i64 d])) := by
  obtain ⟨rfl, h2, h3, h4⟩ := h
  exact ⟨d, rfl, h2, h3, h4⟩
theorem Te.rk_pos (e : Te) : 1 ≤ e.rk := by cases e; simp only [Te.rk]; omega
theorem Te.nd_pos (e : Te) : 1 ≤ e.nd := by cases e; simp only [Te.nd]; omega
set_option maxRecDepth 100000 in
set_option maxHeartbeats 2000000 in
theorem sizeTerm_any : ∀ (r : Nat) (e : Te), e.rk ≤ r → ∀ (cs : List Value) (at_ : Int) (w : World), RepT w [] e cs → 0 ≤ at_ → at_ + e.rk ≤ 1000 →
    Calls Try.prog 19 #[.agg cs.toArray, .int .i64 at_] w fun x w' => SizeIs e.nd e.rk x ∧ Below w.heap.size w w' := by
  intro r
  induction r with
  | zero => intro e h; have := e.rk_pos; omega
  | succ r ih =>
    intro e hr cs at_ w hR h0 h1
    have IH := Lib.hid ih
    clear ih
    obtain ⟨op, nm, exprs, terms, a, len, cap, a2, len2, cap2, rfl, rfl, i1, i3, hS, hS2⟩ := hR.inv
    have HS := Lib.hid hS
    have HS2 := Lib.hid hS2
    obtain ⟨f1, f2, f3⟩ := hS.facts
    obtain ⟨f4, f5, f6⟩ := hS2.facts
    have HL := Lib.hid f1
    have HL2 := Lib.hid f4
    have HR := Lib.hid hr
    have HND := Lib.hid (show (Te.mk op nm exprs terms).nd = 1 + Ex.nd.go exprs + Te.nd.go terms from rfl)
    have HRK := Lib.hid (show (Te.mk op nm exprs terms).rk = 1 + max (Ex.rk.go exprs) (Te.rk.go terms) from rfl)
    have HEL := Lib.hid (fun (k : Nat) (e : Ex) (h : exprs[k]? = some e) => Ex.rkx_lt (op := op) (nm := nm) (l := terms) h)
    have HTL := Lib.hid (fun (k : Nat) (e : Te) (h : terms[k]? = some e) => Te.rk_lt (op := op) (nm := nm) (x := exprs) h)
    generalize (Te.mk op nm exprs terms).nd = ND at *
    generalize (Te.mk op nm exprs terms).rk = RK at *
    have T := Lib.hid (((((Below.refl _ w).alloc (Nat.le_refl _) (.cells #[.int .i64 op, .string nm, .slice a len cap, .slice a2 len2 cap2] 32)).alloc (by simp) (.cells #[.int .i64 0, .int .i64 0] 62)).alloc (by simp; omega) (.cells #[.int .i64 1, .int .i64 1] 62)) : Below w.heap.size w _)
    have T0 := Lib.hid (((Mem.Blk.new w 32 #[.int .i64 op, .string nm, .slice a len cap, .slice a2 len2 cap2]).alloc (.cells #[.int .i64 0, .int .i64 0] 62)).alloc (.cells #[.int .i64 1, .int .i64 1] 62))
    have TB := Lib.hid (Mem.Blk.new ((w.alloc (.cells #[.int .i64 op, .string nm, .slice a len cap, .slice a2 len2 cap2] 32)).alloc (.cells #[.int .i64 0, .int .i64 0] 62)) 62 #[.int .i64 1, .int .i64 1])
    have TR := Lib.hid ((Mem.Blk.new (w.alloc (.cells #[.int .i64 op, .string nm, .slice a len cap, .slice a2 len2 cap2] 32)) 62 #[.int .i64 0, .int .i64 0]).alloc (.cells #[.int .i64 1, .int .i64 1] 62))
    have e1 : (w.alloc (.cells #[.int .i64 op, .string nm, .slice a len cap, .slice a2 len2 cap2] 32)).heap.size = w.heap.size + 1 := by simp
    have e2 : ((w.alloc (.cells #[.int .i64 op, .string nm, .slice a len cap, .slice a2 len2 cap2] 32)).alloc (.cells #[.int .i64 0, .int .i64 0] 62)).heap.size = w.heap.size + 1 + 1 := by simp
    rw [e1] at TR
    rw [e2] at TB
    have hat1 := Lib.hid h1
    clear i1 i3 f1 f4 hr hR hS hS2 e1 e2 h1
    go_enter Try.func19, Try.ntmps19
    go_wp2_with fail
    go_loopw [14] (fun i wr => ∃ (k : Nat) (x d : Int), i = .int .i64 (k : Nat) ∧ k ≤ len ∧ Hid (Below w.heap.size w wr) ∧ Hid (Mem.Blk wr w.heap.size 32 #[.int .i64 op, .string nm, .slice a len cap, .slice a2 len2 cap2]) ∧ Hid (Mem.Blk wr (w.heap.size + 1) 62 #[.int .i64 0, .int .i64 0]) ∧
      Hid (Mem.Blk wr (w.heap.size + 1 + 1) 62 #[.int .i64 x, .int .i64 d]) ∧ Hid (St (1 + Ex.nd.go (exprs.take k)) (1 + Ex.rk.go (exprs.take k)) x d)) (fun i _ => len - (intOf i).toNat)
    case atStart => exact ⟨0, 1, 1, rfl, Nat.zero_le _, T.out, T0.out, TR.out, TB.out, ⟨rfl, by omega, by omega, fun _ => rfl⟩⟩
    case round =>
      obtain ⟨k, x, d, rfl, hk, HW, H0, HA, HB, HD⟩ := hrel
      obtain ⟨p1, p2, p3, p4⟩ := HA.out.two
      obtain ⟨q1, q2, q3, q4⟩ := HB.out.two
      have hBlt := HB.out.lt
      have hAlt := HA.out.lt
      obtain ⟨x0, x1, d0, d1⟩ := HD.out.bd
      by_cases hlt : k < len
      · obtain ⟨b, o, op', n', nm', args', a', len', cap', rfl, hb, hbx, hle, j1, j2, j3, hS', g0, g1, g2, g3⟩ := (HS.out.kept (Kept.of_below HW.out [])).at k hlt
        have hel := HEL.out k _ hle
        have hat2 : at_ + 1 + (Ex.mk op' n' nm' args').rk ≤ 1000 := by have := hat1.out; omega
        have HN := Lib.hid (Ex.nd_take hle)
        have HK := Lib.hid (Ex.rk_take hle)
        have HIH := Lib.hid (fun W hW => sizeExpr_any (Ex.mk op' n' nm' args').rk (Ex.mk op' n' nm' args') (Nat.le_refl _) [.int .i64 op', .int .i64 n', .string nm', .slice a' len' cap'] (at_ + 1) W (RepE.mk' j1 j2 j3 (hS'.kept hW)) (by omega) hat2)
        have hek : Hid ((Ex.mk op' n' nm' args').rk + 1 ≤ 1000) := by show _ ≤ _; omega
        generalize (Ex.mk op' n' nm' args').nd = en at *
        generalize (Ex.mk op' n' nm' args').rk = ek at *
        have BA := Lib.hid (HA.out.alloc (.cells #[.int .i64 op', .int .i64 n', .string nm', .slice a' len' cap'] 53))
        have BB := Lib.hid (HB.out.alloc (.cells #[.int .i64 op', .int .i64 n', .string nm', .slice a' len' cap'] 53))
        have B0 := Lib.hid (H0.out.alloc (.cells #[.int .i64 op', .int .i64 n', .string nm', .slice a' len' cap'] 53))
        have hkp := Kept.alloc wr (.cells #[.int .i64 op', .int .i64 n', .string nm', .slice a' len' cap'] 53) []
        have hkd : Hid (Kept [] wr (wr.alloc (.cells #[.int .i64 op', .int .i64 n', .string nm', .slice a' len' cap'] 53)).drew) := ⟨hkp.1, hkp.2⟩
        have HW2 := Lib.hid (HW.out.alloc HW.out.size (.cells #[.int .i64 op', .int .i64 n', .string nm', .slice a' len' cap'] 53))
        have hwrap : IntKind.i64.wrap (at_ + 1) = at_ + 1 := IntWalk.i64_in _ (by omega)
        have HSS := Lib.hid (fun x' d' (h : St en ek x' d') => HD.out.step h hek.out)
        clear HEL hel hS' HS hkp T T0 TB TR IH HTL HS2 HND HRK HL HL2 HR
        go_wp2_with fail
        go_region_with (first
          | (go_at_call 38
             refine (HIH.out _ hkd.out).mono ?_
             rintro y w1 ⟨hy, b1⟩
             obtain ⟨x', d', rfl, hst⟩ := hy.st
             obtain ⟨y0, y1, z0, z1⟩ := hst.bd
             have hst2 := Lib.hid hst
             obtain ⟨r1, r2, r3, r4⟩ := (BB.out.drew.below b1).two)
          | (go_at_call 37
             refine (with_any _ _ _ _ _ ⟨x0, x1⟩ ⟨d0, d1⟩ ⟨y0, y1⟩ ⟨z0, z1⟩).mono ?_
             rintro y w2 ⟨rfl, b2⟩
             obtain ⟨r5, r6, r7, r8⟩ := ((BB.out.drew.below b1).below b2).two))
        all_goals
          have W3 := Lib.hid ((HW2.out.drew.trans (b1.mono HW2.out.size)).trans (b2.mono (HW2.out.drew.trans (b1.mono HW2.out.size)).size))
          have A3 := Lib.hid ((BA.out.drew.below b1).below b2)
          have B3 := Lib.hid ((BB.out.drew.below b1).below b2)
          have C3 := Lib.hid ((B0.out.drew.below b1).below b2)
          have S3 : Hid (St (1 + Ex.nd.go (exprs.take (k + 1))) (1 + Ex.rk.go (exprs.take (k + 1))) (min (x + x') 1000) (min (max d (d' + 1)) 1000)) := by
            have h := HSS.out _ _ hst2.out
            show St _ _ _ _
            rw [HN.out, HK.out, ← Nat.add_assoc, show 1 + max (Ex.rk.go (exprs.take k)) ek = max (1 + Ex.rk.go (exprs.take k)) (ek + 1) by omega]
            exact h
          clear b1 b2 BA BB B0 HIH hst hst2 HSS
          go_wp2
          go_roundw
          case rel => exact ⟨k + 1, _, _, by go_num, by omega, (W3.out.setCell (by simp; omega) _).setCell (by simp; omega) _, (C3.out.far (by simp; omega) _).far (by simp; omega) _, (A3.out.far (by simp) _).far (by simp) _, (B3.out.set_ 0 _).set_ 1 _, S3.out⟩
          case measure => simp [intOf]; omega
      · have hke : k = len := by omega
        subst hke
        have etk : exprs.take k = exprs := List.take_of_length_le (by rw [HL.out]; exact Nat.le_refl _)
        have HD0 : Hid (St (1 + Ex.nd.go exprs) (1 + Ex.rk.go exprs) x d) := by have h := HD.out; rw [etk] at h; exact h
        have c3 : wr.cell? ⟨w.heap.size, 3, none⟩ = some (.slice a2 len2 cap2) := H0.out.cell 3
        clear hlt etk HD HEL T T0 TB TR HL HS p1 p2 p3 p4 q1 q2 q3 q4 x0 x1 d0 d1
        have W1 := Lib.hid HW.out
        go_wp2_with fail
        clear c3 hBlt hAlt
        go_loopw [28] (fun i wr => ∃ (k : Nat) (x d : Int), i = .int .i64 (k : Nat) ∧ k ≤ len2 ∧ Hid (Below w.heap.size w wr) ∧ Hid (Mem.Blk wr (w.heap.size + 1) 62 #[.int .i64 0, .int .i64 0]) ∧
          Hid (Mem.Blk wr (w.heap.size + 1 + 1) 62 #[.int .i64 x, .int .i64 d]) ∧ Hid (St (1 + Ex.nd.go exprs + Te.nd.go (terms.take k)) (1 + max (Ex.rk.go exprs) (Te.rk.go (terms.take k))) x d)) (fun i _ => len2 - (intOf i).toNat)
        case atStart => exact ⟨0, x, d, rfl, Nat.zero_le _, W1.out, HA.out, HB.out, by have h := HD0.out; show St _ _ _ _; simpa [Te.nd.go, Te.rk.go] using h⟩
        case round =>
          clear HW HA HB HD0 H0 W1
          obtain ⟨k2, x, d, rfl, hk2, HW, HA, HB, HD⟩ := hrel
          obtain ⟨p1, p2, p3, p4⟩ := HA.out.two
          obtain ⟨q1, q2, q3, q4⟩ := HB.out.two
          have hBlt := HB.out.lt
          have hAlt := HA.out.lt
          obtain ⟨x0, x1, d0, d1⟩ := HD.out.bd
          by_cases hlt : k2 < len2
          · obtain ⟨b, o, op', nm', ex', te', a', len', cap', a3, len3, cap3, rfl, hb, hbx, hle, j1, j3, hS', hS3, g0, g1, g2, g3⟩ := (HS2.out.kept (Kept.of_below HW.out [])).at k2 hlt
            have hel := HTL.out k2 _ hle
            have hat : at_ < 1000 := by have := hat1.out; have := Te.rk_pos (Te.mk op' nm' ex' te'); omega
            have hat2 : at_ + 1 + (Te.mk op' nm' ex' te').rk ≤ 1000 := by have := hat1.out; omega
            by_cases hbig : 1000 ≤ x
            · have FIN : Hid (SizeIs ND RK (.returned (.agg #[.int .i64 1000, .int .i64 1000]))) := by
                have hm : 1000 ≤ ND := by rw [HND.out]; have := Te.nd_le terms k2; have := HD.out.1; omega
                show SizeIs ND RK _
                exact ⟨1000, by rw [show min (ND : Int) 1000 = 1000 by omega], by omega, by omega, fun h => by omega⟩
              clear HD
              go_wp2
              refine bodyPost_ret (v := .agg #[.int .i64 1000, .int .i64 1000]) (by simp [results, Try.results19, go_sem, p1, p2, hAlt]) rfl ⟨FIN.out, ?_⟩
              exact ((HW.out.setCell (by simp) _).setCell (by simp) _).alloc (by simpa [World.setCell] using HW.out.size) _
            · have hmm : x < 1000 := by omega
              have HN := Lib.hid (Te.nd_take hle)
              have HK := Lib.hid (Te.rk_take hle)
              have HIH := Lib.hid (fun W hW => IH.out (Te.mk op' nm' ex' te') (by have := HR.out; omega) [.int .i64 op', .string nm', .slice a' len' cap', .slice a3 len3 cap3] (at_ + 1) W (RepT.mk' j1 j3 (hS'.kept hW) (hS3.kept hW)) (by omega) hat2)
              have hek : Hid ((Te.mk op' nm' ex' te').rk + 1 ≤ 1000) := by show _ ≤ _; omega
              generalize (Te.mk op' nm' ex' te').nd = en at *
              generalize (Te.mk op' nm' ex' te').rk = ek at *
              have BA := Lib.hid (HA.out.alloc (.cells #[.int .i64 op', .string nm', .slice a' len' cap', .slice a3 len3 cap3] 32))
              have BB := Lib.hid (HB.out.alloc (.cells #[.int .i64 op', .string nm', .slice a' len' cap', .slice a3 len3 cap3] 32))
              have hkp := Kept.alloc wr (.cells #[.int .i64 op', .string nm', .slice a' len' cap', .slice a3 len3 cap3] 32) []
              have hkd : Hid (Kept [] wr (wr.alloc (.cells #[.int .i64 op', .string nm', .slice a' len' cap', .slice a3 len3 cap3] 32)).drew) := ⟨hkp.1, hkp.2⟩
              have HW2 := Lib.hid (HW.out.alloc HW.out.size (.cells #[.int .i64 op', .string nm', .slice a' len' cap', .slice a3 len3 cap3] 32))
              have hwrap : IntKind.i64.wrap (at_ + 1) = at_ + 1 := IntWalk.i64_in _ (by omega)
              have HSS := Lib.hid (fun x' d' (h : St en ek x' d') => HD.out.step h hek.out)
              clear HTL hel hS' hS3 HS2 hkp IH HND HRK HL2 HR hbig
              go_wp2_with fail
              go_region_with (first
                | (go_at_call 19
                   refine (HIH.out _ hkd.out).mono ?_
                   rintro y w1 ⟨hy, b1⟩
                   obtain ⟨x', d', rfl, hst⟩ := hy.st
                   obtain ⟨y0, y1, z0, z1⟩ := hst.bd
                   have hst2 := Lib.hid hst
                   obtain ⟨r1, r2, r3, r4⟩ := (BB.out.drew.below b1).two)
                | (go_at_call 37
                   refine (with_any _ _ _ _ _ ⟨x0, x1⟩ ⟨d0, d1⟩ ⟨y0, y1⟩ ⟨z0, z1⟩).mono ?_
                   rintro y w2 ⟨rfl, b2⟩
                   obtain ⟨r5, r6, r7, r8⟩ := ((BB.out.drew.below b1).below b2).two))
              all_goals
                have W3 := Lib.hid ((HW2.out.drew.trans (b1.mono HW2.out.size)).trans (b2.mono (HW2.out.drew.trans (b1.mono HW2.out.size)).size))
                have A3 := Lib.hid ((BA.out.drew.below b1).below b2)
                have B3 := Lib.hid ((BB.out.drew.below b1).below b2)
                have S3 : Hid (St (1 + Ex.nd.go exprs + Te.nd.go (terms.take (k2 + 1))) (1 + max (Ex.rk.go exprs) (Te.rk.go (terms.take (k2 + 1)))) (min (x + x') 1000) (min (max d (d' + 1)) 1000)) := by
                  have h := HSS.out _ _ hst2.out
                  show St _ _ _ _
                  rw [HN.out, HK.out, ← Nat.add_assoc, show 1 + max (Ex.rk.go exprs) (max (Te.rk.go (terms.take k2)) ek) = max (1 + max (Ex.rk.go exprs) (Te.rk.go (terms.take k2))) (ek + 1) by omega]
                  exact h
                clear b1 b2 BA BB HIH hst hst2 HSS
                go_wp2
                go_roundw
                case rel => exact ⟨k2 + 1, _, _, by go_num, by omega, (W3.out.setCell (by simp; omega) _).setCell (by simp; omega) _, (A3.out.far (by simp) _).far (by simp) _, (B3.out.set_ 0 _).set_ 1 _, S3.out⟩
                case measure => simp [intOf]; omega
          · have hke : k2 = len2 := by omega
            subst hke
            have FIN : Hid (SizeIs ND RK (.returned (.agg #[.int .i64 x, .int .i64 d]))) := by
              have e : terms.take k2 = terms := List.take_of_length_le (by rw [HL2.out]; exact Nat.le_refl _)
              have hd := HD.out
              rw [e] at hd
              show SizeIs ND RK _
              rw [HND.out, HRK.out]
              exact hd.is
            clear HD hlt
            go_wp2
            refine bodyPost_ret (v := .agg #[.int .i64 x, .int .i64 d]) (by simp [results, Try.results19, go_sem, p1, p2, hAlt]) rfl ⟨FIN.out, ?_⟩
            exact (HW.out.setCell (by simp) _).setCell (by simp) _
end Go.Proofs.Ytmiinmndbkdjbaa

/- The contracts of built, RightExpr, Right; condition: the tree is less than 1000 deep. -/
namespace Go.Proofs.Ytmiinmndbkdjbaa
set_option linter.unusedVariables false
set_option linter.unusedSimpArgs false
open Go.RowKit
/-- Are a term's own cells as they must be? -/
def okT (op : Int) (nm : ByteArray) : Bool := !(op == 2 && !fre nm) && !(op != 2 && !nm.toList.isEmpty)
def bT : Te → Bool
  | .mk op nm x l => (arX op == (x.length : Nat)) && (arT op == (l.length : Nat)) && okT op nm && !(x.any fun e => !bE e) && go l
  where go : List Te → Bool
  | [] => true
  | e :: t => bT e && go t
theorem bT_go (l : List Te) : bT.go l = !l.any fun e => !bT e := by
  induction l with
  | nil => rfl
  | cons x t ih => simp only [bT.go, ih, List.any_cons, Bool.not_or, Bool.not_not]
set_option maxRecDepth 100000 in
set_option maxHeartbeats 4000000 in
theorem built_any : ∀ (r : Nat) (e : Te), e.rk ≤ r → ∀ (cs : List Value) (w : World), RepT w [] e cs →
    Calls Try.prog 31 #[.agg cs.toArray] w fun x w' => x = .returned (.bool (bT e)) ∧ Below w.heap.size w w' := by
  intro r
  induction r with
  | zero => intro e h; have := e.rk_pos; omega
  | succ r ih =>
    intro e hr cs w hR
    obtain ⟨op, nm, exprs, terms, a, len, cap, a2, len2, cap2, rfl, rfl, i1, i3, hS, hS2⟩ := hR.inv
    obtain ⟨f1, f2, f3⟩ := hS.facts
    obtain ⟨f4, f5, f6⟩ := hS2.facts
    have HW0 := Lib.hid ((Below.refl w.heap.size w).alloc (Nat.le_refl _) (.cells #[.int .i64 op, .string nm, .slice a len cap, .slice a2 len2 cap2] 32))
    have HC : Hid (∀ W, Below w.heap.size w W → Calls Try.prog 27 #[.slice a len cap, .func (.func 51) #[] #[]] W fun e w' => e = .returned (.bool (exprs.any fun e => !bE e)) ∧ Below W.heap.size W w') := by
      intro W hW
      refine containsE_any 51 _ exprs a len cap W (enters_of Try.func51 (by kernel_rfl) rfl) (hS.kept (Kept.of_below hW [])) ?_
      intro k e' cs' W' hk hR'
      have HI := Lib.hid (fun W1 hW1 => builtExpr_any e'.rk e' (Nat.le_refl _) cs' W1 (hR'.kept hW1))
      obtain ⟨op', n', nm', args', a', len', cap', rfl, rfl, _, _, _, _⟩ := hR'.inv
      have hk0 := Lib.hid (Kept.alloc W' (.cells #[.int .i64 op', .int .i64 n', .string nm', .slice a' len' cap'] 53) [])
      generalize bE (.mk op' n' nm' args') = v at *
      clear hR' hR hS hS2 hW ih hk
      go_enter Try.func51, Try.ntmps51
      go_wp2_with fail
      refine (HI.out _ hk0.out).mono ?_; rintro x w1 ⟨rfl, b1⟩
      go_wp2
      go_ret
      exact ⟨rfl, ((Below.refl _ _).alloc (Nat.le_refl _) _).trans (b1.mono (by simp))⟩
    have HC2 : Hid (∀ W, Below w.heap.size w W → Calls Try.prog 53 #[.slice a2 len2 cap2, .func (.func 54) #[] #[]] W fun e w' => e = .returned (.bool (terms.any fun e => !bT e)) ∧ Below W.heap.size W w') := by
      intro W hW
      refine containsT_any 54 _ terms a2 len2 cap2 W (enters_of Try.func54 (by kernel_rfl) rfl) (hS2.kept (Kept.of_below hW [])) ?_
      intro k e' cs' W' hk hR'
      have hlt := Te.rk_lt (op := op) (nm := nm) (x := exprs) hk
      have HI := Lib.hid (fun W1 hW1 => ih e' (by omega) cs' W1 (hR'.kept hW1))
      obtain ⟨op', nm', ex', te', a', len', cap', a3, len3, cap3, rfl, rfl, _, _, _, _⟩ := hR'.inv
      have hk0 := Lib.hid (Kept.alloc W' (.cells #[.int .i64 op', .string nm', .slice a' len' cap', .slice a3 len3 cap3] 32) [])
      generalize bT (.mk op' nm' ex' te') = v at *
      clear hR' hlt hR hS hS2 hW ih hk
      go_enter Try.func54, Try.ntmps54
      go_wp2_with fail
      refine (HI.out _ hk0.out).mono ?_; rintro x w1 ⟨rfl, b1⟩
      go_wp2
      go_ret
      exact ⟨rfl, ((Below.refl _ _).alloc (Nat.le_refl _) _).trans (b1.mono (by simp))⟩
    have HAR := Lib.hid (fun W => arities_any op W)
    have HFR := Lib.hid (fun W => free_any nm W i3)
    have HB := Lib.hid (show bT (.mk op nm exprs terms) = ((arX op == (len : Nat)) && (arT op == (len2 : Nat)) && (!(op == 2 && !fre nm) && !(op != 2 && !nm.toList.isEmpty)) && !(exprs.any fun e => !bE e) && !(terms.any fun e => !bT e)) by rw [← bT_go, ← f1, ← f4]; rfl)
    have HF : Hid (∀ x, bT (.mk op nm exprs terms) = x → Ending.returned (.bool x) = .returned (.bool (bT (.mk op nm exprs terms)))) := fun x h => by rw [h]
    generalize bT (.mk op nm exprs terms) = R at *
    generalize (exprs.any fun e => !bE e) = C at *
    generalize (terms.any fun e => !bT e) = D at *
    generalize arX op = A at *
    generalize arT op = A2 at *
    generalize fre nm = FR at *
    clear ih hr hR hS hS2 f1 f4 i1
    by_cases hA : A = (len : Int)
    case neg =>
      have F := Lib.hid (HF.out false (by rw [HB.out]; simp [hA]))
      have t1 : (A != (len : Int)) = true := by simp [hA]
      clear hA
      go_enter Try.func31, Try.ntmps31
      go_wp2_with fail
      refine (HAR.out _).mono ?_; rintro x w' ⟨rfl, rfl⟩
      go_wp2
      go_ret
      exact ⟨F.out, HW0.out⟩
    subst hA
    by_cases hA2 : A2 = (len2 : Int)
    case neg =>
      have F := Lib.hid (HF.out false (by rw [HB.out]; simp [hA2]))
      have t1 : (A2 != (len2 : Int)) = true := by simp [hA2]
      clear hA2
      go_enter Try.func31, Try.ntmps31
      go_wp2_with fail
      refine (HAR.out _).mono ?_; rintro x w' ⟨rfl, rfl⟩
      go_wp2
      go_ret
      exact ⟨F.out, HW0.out⟩
    subst hA2
    by_cases o2 : op = 2
    · subst o2
      cases FR
      · have F := Lib.hid (HF.out false (by rw [HB.out]; simp))
        go_enter Try.func31, Try.ntmps31
        go_wp2_with fail
        refine (HAR.out _).mono ?_; rintro x w' ⟨rfl, rfl⟩
        go_wp2_with fail
        refine (HFR.out _).mono ?_; rintro x w' ⟨rfl, rfl⟩
        go_wp2
        go_ret
        exact ⟨F.out, HW0.out⟩
      · cases C
        · have F := Lib.hid (HF.out (!D) (by rw [HB.out]; simp))
          go_enter Try.func31, Try.ntmps31
          go_wp2_with fail
          refine (HAR.out _).mono ?_; rintro x w' ⟨rfl, rfl⟩
          go_wp2_with fail
          refine (HFR.out _).mono ?_; rintro x w' ⟨rfl, rfl⟩
          go_wp2_with fail
          refine (HC.out _ HW0.out).mono ?_; rintro x w1 ⟨rfl, b1⟩
          have W1 := Lib.hid (HW0.out.trans (b1.mono HW0.out.size))
          have c3 : w1.cell? ⟨w.heap.size, 3, none⟩ = some (.slice a2 len2 cap2) := ((Mem.Blk.new w 32 #[.int .i64 _, .string nm, .slice a len cap, .slice a2 len2 cap2]).below b1).cell 3
          go_wp2_with fail
          refine (HC2.out _ W1.out).mono ?_; rintro x w2 ⟨rfl, b2⟩
          go_wp2
          go_ret
          exact ⟨F.out, W1.out.trans (b2.mono W1.out.size)⟩
        · have F := Lib.hid (HF.out false (by rw [HB.out]; simp))
          go_enter Try.func31, Try.ntmps31
          go_wp2_with fail
          refine (HAR.out _).mono ?_; rintro x w' ⟨rfl, rfl⟩
          go_wp2_with fail
          refine (HFR.out _).mono ?_; rintro x w' ⟨rfl, rfl⟩
          go_wp2_with fail
          refine (HC.out _ HW0.out).mono ?_; rintro x w1 ⟨rfl, b1⟩
          go_wp2
          go_ret
          exact ⟨F.out, HW0.out.trans (b1.mono HW0.out.size)⟩
    · have g2 : (op == 2) = false := by simp [o2]
      have g2' : (op != 2) = true := by simp [o2]
      cases he : nm.toList with
      | cons c0 ct =>
        have he2 : nm.toList.isEmpty = false := by rw [he]; rfl
        have he3 : (!nm.toList.isEmpty) = true := by rw [he2]; rfl
        have F := Lib.hid (HF.out false (by rw [HB.out, he2]; simp [o2]))
        clear he o2
        go_enter Try.func31, Try.ntmps31
        go_wp2_with fail
        refine (HAR.out _).mono ?_; rintro x w' ⟨rfl, rfl⟩
        go_wp2
        go_ret
        exact ⟨F.out, HW0.out⟩
      | nil =>
        have he2 : nm.toList.isEmpty = true := by rw [he]; rfl
        cases C
        · have F := Lib.hid (HF.out (!D) (by rw [HB.out, he2]; simp [o2]))
          clear o2
          go_enter Try.func31, Try.ntmps31
          go_wp2_with fail
          refine (HAR.out _).mono ?_; rintro x w' ⟨rfl, rfl⟩
          go_wp2_with fail
          refine (HC.out _ HW0.out).mono ?_; rintro x w1 ⟨rfl, b1⟩
          have W1 := Lib.hid (HW0.out.trans (b1.mono HW0.out.size))
          have c3 : w1.cell? ⟨w.heap.size, 3, none⟩ = some (.slice a2 len2 cap2) := ((Mem.Blk.new w 32 #[.int .i64 _, .string nm, .slice a len cap, .slice a2 len2 cap2]).below b1).cell 3
          go_wp2_with fail
          refine (HC2.out _ W1.out).mono ?_; rintro x w2 ⟨rfl, b2⟩
          go_wp2
          go_ret
          exact ⟨F.out, W1.out.trans (b2.mono W1.out.size)⟩
        · have F := Lib.hid (HF.out false (by rw [HB.out, he2]; simp))
          clear o2
          go_enter Try.func31, Try.ntmps31
          go_wp2_with fail
          refine (HAR.out _).mono ?_; rintro x w' ⟨rfl, rfl⟩
          go_wp2_with fail
          refine (HC.out _ HW0.out).mono ?_; rintro x w1 ⟨rfl, b1⟩
          go_wp2
          go_ret
          exact ⟨F.out, HW0.out.trans (b1.mono HW0.out.size)⟩
end Go.Proofs.Ytmiinmndbkdjbaa

/- Rows of elements of several cells. -/
namespace Go.Proofs.Ytmiinmndbkdjbaa
set_option linter.unusedVariables false
set_option linter.unusedSimpArgs false
open Go.RowKit
theorem flat_len {α : Type} (sz : Nat) : ∀ (vs : List (List α)), (∀ c ∈ vs, c.length = sz) → vs.flatten.length = vs.length * sz := by
  intro vs
  induction vs with
  | nil => intro _; simp
  | cons c t ih =>
    intro h
    rw [List.flatten_cons, List.length_append, ih (fun x hx => h x (List.mem_cons_of_mem _ hx)), h c (List.mem_cons_self ..), List.length_cons, Nat.add_mul]; omega
theorem flat_get {α : Type} (sz : Nat) : ∀ (vs : List (List α)), (∀ c ∈ vs, c.length = sz) → ∀ (i j : Nat) (c : List α), vs[i]? = some c → j < sz → vs.flatten[i * sz + j]? = c[j]? := by
  intro vs
  induction vs with
  | nil => intro _ i j c h; cases h
  | cons d t ih =>
    intro h i j c hc hj
    have hd := h d (List.mem_cons_self ..)
    cases i with
    | zero =>
      simp at hc; subst hc
      rw [List.flatten_cons, Nat.zero_mul, Nat.zero_add, List.getElem?_append_left (by omega)]
    | succ k =>
      rw [List.flatten_cons, List.getElem?_append_right (by rw [hd, Nat.add_mul]; omega), hd, show (k + 1) * sz + j - sz = k * sz + j by rw [Nat.add_mul]; omega]
      exact ih (fun x hx => h x (List.mem_cons_of_mem _ hx)) k j c (by simpa using hc) hj
theorem Sl.len4 {w : World} {X : List Nat} {sz len cap : Nat} {a : Option Addr} {vs : List (List Value)} (h : Sl w X sz a len cap vs) : ∀ c ∈ vs, c.length = sz := by
  intro c hc
  obtain ⟨i, hi, rfl⟩ := List.getElem_of_mem hc
  obtain ⟨b, o, _, _, _, hq⟩ := h.2.2.2 (by have := h.1; omega)
  exact (hq i _ (List.getElem?_eq_getElem hi)).1
/-- The cells of a slice's elements, one behind another. -/
theorem Sl.cells {w : World} {X : List Nat} {sz len cap b o : Nat} {vs : List (List Value)} (h : Sl w X sz (some ⟨b, o, none⟩) len cap vs) (hz : 0 < sz) : ∀ j u, vs.flatten[j]? = some u → w.cell? ((⟨b, o, none⟩ : Addr).add j) = some u := by
  intro j u hu
  have hl := h.len4
  have hlen := flat_len sz vs hl
  have hj : j < vs.length * sz := by rw [← hlen]; exact (List.getElem?_eq_some_iff.1 hu).1
  have hi : j / sz < vs.length := Nat.div_lt_of_lt_mul (by rw [Nat.mul_comm]; exact hj)
  have hm : j % sz < sz := Nat.mod_lt _ hz
  have e : j = j / sz * sz + j % sz := by rw [Nat.mul_comm]; exact (Nat.div_add_mod j sz).symm
  obtain ⟨b', o', ha, _, _, hc⟩ := h.2.2.2 (by rw [← h.1]; exact Nat.lt_of_le_of_lt (Nat.zero_le _) hi)
  injection ha with ha; injection ha with h1 h2; subst h1 h2
  have hci := List.getElem?_eq_getElem hi
  rw [e, flat_get sz vs hl _ _ _ hci hm] at hu
  rw [Mem.add_off, e, ← Nat.add_assoc]
  exact (hc _ _ hci).2 _ _ hu
/-- A row of the call's own, as a slice of elements. -/
theorem own_sl {w0 w : World} {e : TypeId} {sz n : Nat} {v : Value} {vs : List (List Value)} {X : List Nat} (h : Mem.Own w0 w e sz v n vs.flatten) (hn : vs.length = n) (hl : ∀ c ∈ vs, c.length = sz) (hX : ∀ b ∈ X, b < w0.heap.size) :
    ∃ a cap, v = .slice a n cap ∧ Sl w X sz a n cap vs ∧ ∀ g, v.ownBlock = some g → w0.heap.size ≤ g := by
  have hmx : maxLen = 9223372036854775807 := by decide
  rcases h.own.2 with ⟨rfl, rfl⟩ | ⟨g, cap, cur, rfl, h1, h2, h3, h4, h5, h6⟩
  · exact ⟨none, 0, rfl, ⟨hn, Nat.le_refl _, by omega, fun h => absurd h (by omega)⟩, fun x hx => by simp [Value.ownBlock] at hx⟩
  · refine ⟨_, cap, rfl, ⟨hn, h3, by omega, fun hp => ⟨g, 0, rfl, lt_of_block h2, fun hm => by have := hX g hm; omega, fun i cs hi => ?_⟩⟩, fun x hx => by simp [Value.ownBlock] at hx; omega⟩
    have hc := hl cs (List.mem_of_getElem? hi)
    refine ⟨hc, fun j c hj => ?_⟩
    have hjs : j < sz := by rw [← hc]; exact (List.getElem?_eq_some_iff.1 hj).1
    have hin : i < n := by rw [← hn]; exact (List.getElem?_eq_some_iff.1 hi).1
    rw [Nat.zero_add, h.cell (i * sz + j) (by calc i * sz + j < i * sz + sz := by omega
                                                _ = (i + 1) * sz := by rw [Nat.add_mul]; omega
                                                _ ≤ n * sz := Nat.mul_le_mul_right _ (by omega)), flat_get sz vs hl i j cs hi hjs]
    exact hj
theorem infoE : (Try.prog.info? 53).map (fun i => (i.zero, i.size, i.bytes)) = some (some (.agg #[.int .i64 0, .int .i64 0, .string ⟨#[]⟩, .slice none 0 0]), 4, 56) := by kernel_rfl
theorem infoT : (Try.prog.info? 32).map (fun i => (i.zero, i.size, i.bytes)) = some (some (.agg #[.int .i64 0, .string ⟨#[]⟩, .slice none 0 0, .slice none 0 0]), 4, 72) := by kernel_rfl
theorem RepE.one {w : World} {X : List Nat} {e : Ex} {cs : List Value} (h : RepE w X e cs) : cs.length = 4 ∧ ∀ u ∈ cs, u.oneCell' = true := by
  obtain ⟨op, n, nm, args, a, len, cap, rfl, rfl, _⟩ := h.inv
  exact ⟨rfl, by intro u hu; simp at hu; rcases hu with rfl | rfl | rfl | rfl <;> rfl⟩
theorem RepT.one {w : World} {X : List Nat} {e : Te} {cs : List Value} (h : RepT w X e cs) : cs.length = 4 ∧ ∀ u ∈ cs, u.oneCell' = true := by
  obtain ⟨op, nm, ex, te, a, len, cap, a2, len2, cap2, rfl, rfl, _⟩ := h.inv
  exact ⟨rfl, by intro u hu; simp at hu; rcases hu with rfl | rfl | rfl | rfl <;> rfl⟩
theorem flat_one {vs : List (List Value)} (h : ∀ c ∈ vs, ∀ u ∈ c, u.oneCell' = true) : ∀ u ∈ vs.flatten, u.oneCell' = true := by
  intro u hu
  obtain ⟨c, hc, hu⟩ := List.mem_flatten.1 hu
  exact h c hc u hu
end Go.Proofs.Ytmiinmndbkdjbaa

/- append onto a row of the call's own, as a step of a region that draws, and in a plain region. -/
namespace Go.Proofs.Ytmiinmndbkdjbaa
set_option linter.unusedVariables false
set_option linter.unusedSimpArgs false
open Go.RowKit
theorem step_ap {P : Program} {w : World} {ops : Array Oper} {o : Oper} {a : Act} {K : Act → World → Prop} {Q : Exit → Act → World → Prop} {E : Prop} {t e : TypeId} {z : Value} {size bytes base : Nat}
    (hinfo : (P.info? e).map (fun i => (i.zero, i.size, i.bytes)) = some (some z, size, bytes)) (ht : P.underlying t = some (.slice e)) (hzs : z.cells.size = size) (hsz : 0 < size)
    (hgd : o.guard = none) (s x : Operand) (ho : o.op = .call { callee := .builtin .append, args := #[s, x], argTypes := #[t, t] })
    {v : Value} {n : Nat} {xs : List Value} (hs : a.eval s = v) (hown : w.ownsRow base e size v n xs) (hbase : base ≤ w.heap.size)
    (ad : Addr) (m c : Nat) (news : List Value) (hx : a.eval x = .slice (some ad) m c) (hl : news.length = m * size)
    (hnews : ∀ j u, news[j]? = some u → w.cell? (ad.add j) = some u) (h1 : ∀ u ∈ news, u.oneCell' = true)
    (h63 : n + m ≤ maxLen) (hbytes : (n + m) * bytes ≤ 140737488355328)
    (h : ∀ v' w', w'.ownsRow base e size v' (n + m) (xs ++ news) → w.grownBy w' v.ownBlock → (v'.ownBlock = v.ownBlock ∨ v'.ownBlock = some w.heap.size) → K (a.put o.dst v') w') :
    if Region.wanted o (yielded ops a.tmps) = true then Oper.wp P o a w K Q else E := by
  obtain ⟨i, hi, hz, hsize, hby⟩ := info_parts hinfo
  have hw : Region.wanted o (yielded ops a.tmps) = true := by simp [Region.wanted, hgd]
  rw [if_pos hw]
  obtain ⟨v', w', hrun, h2, h3, h4, h5⟩ := run_append_own_at (P := P) w base t o.type e i z size bytes ht hi hz hsize hby hzs hsz v n xs hown ad m c news hl hnews h1 h63 hbytes hbase
  unfold Oper.wp execOp
  simp only [ho, resolve, invoke, builtin, Sem.run_bind, Sem.run_pure, Result.andThen_ok, List.map_toArray, List.map_cons, List.map_nil, hs, hx, hrun]
  exact h v' w' h2 h3 h5
/-- The form of a row that is not empty. -/
theorem own_form {w : World} {base : Nat} {e : TypeId} {sz n : Nat} {v : Value} {xs : List Value} (h : w.ownsRow base e sz v n xs) (hn : 0 < n) : ∃ g cap, v = .slice (some ⟨g, 0, none⟩) n cap ∧ base ≤ g ∧ g < w.heap.size ∧ n ≤ cap ∧ v.ownBlock = some g := by
  rcases h.2 with ⟨_, h0⟩ | ⟨g, cap, cur, rfl, h1, h2, h3, _⟩
  · omega
  · exact ⟨g, cap, rfl, h1, lt_of_block h2, h3, rfl⟩
theorem own_lt {w : World} {base : Nat} {e : TypeId} {sz n : Nat} {v : Value} {xs : List Value} (h : w.ownsRow base e sz v n xs) {g : Nat} (hg : v.ownBlock = some g) : base ≤ g ∧ g < w.heap.size := by
  rcases h.2 with ⟨rfl, _⟩ | ⟨g', cap, cur, rfl, h1, h2, _⟩
  · simp [Value.ownBlock] at hg
  · simp [Value.ownBlock] at hg; subst hg; exact ⟨h1, lt_of_block h2⟩
/-- The last element, laid as nought, is stored anew: four cells. -/
theorem own_last4 {w : World} {base g cap n : Nat} {e : TypeId} {xs : List Value} {z0 z1 z2 z3 c0 c1 c2 c3 : Value} (h : w.ownsRow base e 4 (.slice (some ⟨g, 0, none⟩) (n + 1) cap) (n + 1) (xs ++ [z0, z1, z2, z3])) (hx : xs.length = n * 4) :
    ((((w.setCell ⟨g, n * 4, none⟩ c0).setCell ⟨g, n * 4 + 1, none⟩ c1).setCell ⟨g, n * 4 + 2, none⟩ c2).setCell ⟨g, n * 4 + 3, none⟩ c3).ownsRow base e 4 (.slice (some ⟨g, 0, none⟩) (n + 1) cap) (n + 1) (xs ++ [c0, c1, c2, c3]) := by
  have h1 := (h.stored (n * 4) c0).1
  have h2 := (h1.stored (n * 4 + 1) c1).1
  have h3 := (h2.stored (n * 4 + 2) c2).1
  have h4 := (h3.stored (n * 4 + 3) c3).1
  have e0 : ((((xs ++ [z0, z1, z2, z3]).set (n * 4) c0).set (n * 4 + 1) c1).set (n * 4 + 2) c2).set (n * 4 + 3) c3 = xs ++ [c0, c1, c2, c3] := by
    rw [← hx]
    simp [List.set_append]
  rw [e0] at h4
  exact h4
theorem own_slice {w : World} {base : Nat} {e : TypeId} {sz n : Nat} {v : Value} {xs : List Value} (h : w.ownsRow base e sz v n xs) : ∃ a cap, v = .slice a n cap := by
  rcases h.2 with ⟨rfl, h0⟩ | ⟨g, cap, cur, rfl, _⟩
  · subst h0; exact ⟨none, 0, rfl⟩
  · exact ⟨_, cap, rfl⟩
theorem own_below {w w' : World} {base : Nat} {e : TypeId} {sz n : Nat} {v : Value} {xs : List Value} (h : w.ownsRow base e sz v n xs) (hb : Below w.heap.size w w') : w'.ownsRow base e sz v n xs :=
  h.kept (Mem.grown_of_below hb none) (by
    cases hv : v.ownBlock with
    | none => exact .inl rfl
    | some g => exact .inr (by simp))
/-- The four cells of the last element of a row that has grown by noughts. -/
theorem own_tail4 {w : World} {base g cap n : Nat} {e : TypeId} {xs : List Value} {z0 z1 z2 z3 : Value} (h : w.ownsRow base e 4 (.slice (some ⟨g, 0, none⟩) (n + 1) cap) (n + 1) (xs ++ [z0, z1, z2, z3])) (hx : xs.length = n * 4) :
    w.cell? ⟨g, n * 4, none⟩ = some z0 ∧ w.cell? ⟨g, n * 4 + 1, none⟩ = some z1 ∧ w.cell? ⟨g, n * 4 + 2, none⟩ = some z2 ∧ w.cell? ⟨g, n * 4 + 3, none⟩ = some z3 ∧
    w.frozen? ⟨g, n * 4, none⟩ = false ∧ w.frozen? ⟨g, n * 4 + 1, none⟩ = false ∧ w.frozen? ⟨g, n * 4 + 2, none⟩ = false ∧ w.frozen? ⟨g, n * 4 + 3, none⟩ = false := by
  have hc : ∀ j u, j < 4 → [z0, z1, z2, z3][j]? = some u → w.cell? ⟨g, n * 4 + j, none⟩ = some u := by
    intro j u hj hu
    rw [h.cellAt (n * 4 + j) (by omega), List.getElem?_append_right (by omega), hx, Nat.add_sub_cancel_left]; exact hu
  exact ⟨hc 0 _ (by omega) rfl, hc 1 _ (by omega) rfl, hc 2 _ (by omega) rfl, hc 3 _ (by omega) rfl, h.frozenAt _, h.frozenAt _, h.frozenAt _, h.frozenAt _⟩
end Go.Proofs.Ytmiinmndbkdjbaa

/- Slices of elements of any kind: read, and grown by the call itself. -/
namespace Go.Proofs.Ytmiinmndbkdjbaa
set_option linter.unusedVariables false
set_option linter.unusedSimpArgs false
open Go.RowKit
theorem RepT.parts {w : World} {X : List Nat} {op op' : Int} {nm nm' : ByteArray} {ex : List Ex} {te : List Te} {a a2 : Option Addr} {len cap len2 cap2 : Nat} (h : RepT w X (.mk op nm ex te) [.int .i64 op', .string nm', .slice a len cap, .slice a2 len2 cap2]) :
    op = op' ∧ nm = nm' ∧ I64 op ∧ nm.size ≤ 9223372036854775807 ∧ SlE w X ex a len cap ∧ SlT w X te a2 len2 cap2 := by
  cases h with
  | mk vs ho hs he hl hr hv => exact ⟨rfl, rfl, ho, hs, he, vs, hl, hr, hv⟩
theorem RepE.parts {w : World} {X : List Nat} {op op' n n' : Int} {nm nm' : ByteArray} {ex : List Ex} {a : Option Addr} {len cap : Nat} (h : RepE w X (.mk op n nm ex) [.int .i64 op', .int .i64 n', .string nm', .slice a len cap]) :
    op = op' ∧ n = n' ∧ nm = nm' ∧ I64 op ∧ I64 n ∧ nm.size ≤ 9223372036854775807 ∧ SlE w X ex a len cap := by
  cases h with
  | mk vs ho hn hs hl hr hv => exact ⟨rfl, rfl, rfl, ho, hn, hs, vs, hl, hr, hv⟩
/-- What elements are: how many cells each, and what is asked of them. -/
structure Elt (α : Type) where
  sz : Nat
  pos : 0 < sz
  R : World → List Nat → α → List Value → Prop
  kept : ∀ {w w' : World} {X : List Nat} {x : α} {cs : List Value}, R w X x cs → Kept X w w' → R w' X x cs
  less : ∀ {w : World} {X X' : List Nat} {x : α} {cs : List Value}, R w X x cs → (∀ b, b < w.heap.size → b ∈ X' → b ∈ X) → R w X' x cs
  one : ∀ {w : World} {X : List Nat} {x : α} {cs : List Value}, R w X x cs → cs.length = sz ∧ ∀ u ∈ cs, u.oneCell' = true
def exK : Elt Ex := ⟨4, by decide, RepE, fun h k => h.kept k, fun h k => h.less k, fun h => h.one⟩
def teK : Elt Te := ⟨4, by decide, RepT, fun h k => h.kept k, fun h k => h.less k, fun h => h.one⟩
/-- An int: what its cell holds. -/
def i64K : Elt Int := ⟨1, by decide, fun _ _ n cs => cs = [.int .i64 n] ∧ I64 n, fun h _ => h, fun h _ => h, fun h => by obtain ⟨rfl, _⟩ := h; exact ⟨rfl, by simp [Value.oneCell']⟩⟩
/-- A slice that reads as the list l; nothing of it lies in X. -/
def SlR {α : Type} (K : Elt α) (w : World) (X : List Nat) (l : List α) (a : Option Addr) (len cap : Nat) : Prop :=
  ∃ vs : List (List Value), vs.length = l.length ∧ (∀ (i : Nat) (x : α) (cs : List Value), l[i]? = some x → vs[i]? = some cs → K.R w X x cs) ∧ Sl w X K.sz a len cap vs
section
variable {α : Type} {K : Elt α} {w w' : World} {X X' : List Nat} {l : List α} {a : Option Addr} {len cap : Nat}
theorem SlR.kept (h : SlR K w X l a len cap) (k : Kept X w w') : SlR K w' X l a len cap := by
  obtain ⟨vs, h1, h2, h3⟩ := h
  exact ⟨vs, h1, fun i e cs he hc => K.kept (h2 i e cs he hc) k, h3.kept k⟩
theorem SlR.less (h : SlR K w X l a len cap) (hX : ∀ b, b < w.heap.size → b ∈ X' → b ∈ X) : SlR K w X' l a len cap := by
  obtain ⟨vs, h1, h2, h3⟩ := h
  exact ⟨vs, h1, fun i e cs he hc => K.less (h2 i e cs he hc) hX, h3.less hX⟩
theorem SlR.facts (h : SlR K w X l a len cap) : l.length = len ∧ len ≤ cap ∧ cap ≤ 9223372036854775807 := by
  obtain ⟨vs, h1, _, h3⟩ := h; exact ⟨by rw [← h1]; exact h3.1, h3.2.1, h3.2.2.1⟩
theorem SlR.nil (K : Elt α) (w : World) (X : List Nat) : SlR K w X [] none 0 0 := ⟨[], rfl, fun i e cs h _ => by simp at h, Sl.nil _ _ _⟩
theorem SlR.take (h : SlR K w X l a len cap) (k : Nat) (hk : k ≤ len) : SlR K w X (l.take k) a k cap := by
  obtain ⟨vs, h1, h2, h3⟩ := h
  refine ⟨vs.take k, by simp [h1], fun i x cs hi hc => h2 i x cs ?_ ?_, h3.take k hk⟩
  · rw [List.getElem?_take] at hi; split at hi <;> simp_all
  · rw [List.getElem?_take] at hc; split at hc <;> simp_all
/-- The k-th element: where it lies, and its cells. -/
theorem SlR.at (h : SlR K w X l a len cap) (k : Nat) (hk : k < len) : ∃ b o x cs, a = some ⟨b, o, none⟩ ∧ b < w.heap.size ∧ b ∉ X ∧ l[k]? = some x ∧ K.R w X x cs ∧ cs.length = K.sz ∧ ∀ j c, cs[j]? = some c → w.cell? ⟨b, o + k * K.sz + j, none⟩ = some c := by
  have hf := h.facts
  obtain ⟨vs, h1, h2, h3⟩ := h
  obtain ⟨b, o, ha, hb, hx, hc⟩ := h3.2.2.2 (by omega)
  have hlk : l[k]? = some (l[k]'(by omega)) := List.getElem?_eq_getElem (by omega)
  have hvk : vs[k]? = some (vs[k]'(by omega)) := List.getElem?_eq_getElem (by omega)
  exact ⟨b, o, _, _, ha, hb, hx, hlk, h2 k _ _ hlk hvk, (hc k _ hvk).1, (hc k _ hvk).2⟩
end
theorem SlE.slR {w : World} {X : List Nat} {l : List Ex} {a : Option Addr} {len cap : Nat} (h : SlE w X l a len cap) : SlR exK w X l a len cap := h
theorem SlT.slR {w : World} {X : List Nat} {l : List Te} {a : Option Addr} {len cap : Nat} (h : SlT w X l a len cap) : SlR teK w X l a len cap := h
theorem SlR.slE {w : World} {X : List Nat} {l : List Ex} {a : Option Addr} {len cap : Nat} (h : SlR exK w X l a len cap) : SlE w X l a len cap := h
theorem SlR.slT {w : World} {X : List Nat} {l : List Te} {a : Option Addr} {len cap : Nat} (h : SlR teK w X l a len cap) : SlT w X l a len cap := h
theorem or_map {p q r s : Prop} (h : p ∨ q) (f : p → r) (g : q → s) : r ∨ s := h.elim (fun x => .inl (f x)) (fun x => .inr (g x))
/-- Blocks that are still written: the row of v, and the ones of Y. -/
def busy (v : Value) (Y : List Nat) : List Nat := v.ownBlock.toList ++ Y
theorem busy_mem {v : Value} {Y : List Nat} {b : Nat} : b ∈ busy v Y ↔ v.ownBlock = some b ∨ b ∈ Y := by
  unfold busy; rw [List.mem_append, Option.mem_toList]
/-- v is a slice that the call itself makes, in a block from base on (base lies above all of X); it reads as l; nothing of its elements lies in X or in its own row. -/
structure Gro {α : Type} (K : Elt α) (e : TypeId) (base : Nat) (w : World) (X : List Nat) (l : List α) (v : Value) (csl : List (List Value)) : Prop where
  own : w.ownsRow base e K.sz v l.length csl.flatten
  room : base ≤ w.heap.size
  above : ∀ b ∈ X, b < base
  count : csl.length = l.length
  elts : ∀ (i : Nat) (x : α) (cs : List Value), l[i]? = some x → csl[i]? = some cs → K.R w (busy v X) x cs
section
variable {α : Type} {K : Elt α} {e : TypeId} {base : Nat} {w w' w1 w2 : World} {X Y : List Nat} {l : List α} {v v' : Value} {csl : List (List Value)}
theorem Gro.len4 (h : Gro K e base w X l v csl) : ∀ c ∈ csl, c.length = K.sz := by
  intro c hcm
  obtain ⟨i, hi, rfl⟩ := List.getElem_of_mem hcm
  exact (K.one (h.elts i _ _ (List.getElem?_eq_getElem (by have := h.count; omega)) (List.getElem?_eq_getElem hi))).1
theorem Gro.flat (h : Gro K e base w X l v csl) : csl.flatten.length = l.length * K.sz := by rw [flat_len K.sz csl h.len4, h.count]
theorem Gro.start (K : Elt α) (e : TypeId) {base : Nat} {w : World} {X : List Nat} (hb : base ≤ w.heap.size) (hX : ∀ b ∈ X, b < base) : Gro K e base w X [] (.slice none 0 0) [] :=
  ⟨World.ownsRow_nil _ _ _ _, hb, hX, rfl, fun i x cs h _ => by simp at h⟩
theorem Gro.lt (h : Gro K e base w X l v csl) {g : Nat} (hg : v.ownBlock = some g) : base ≤ g ∧ g < w.heap.size := own_lt h.own hg
theorem Gro.notIn (h : Gro K e base w X l v csl) {g : Nat} (hg : v.ownBlock = some g) : g ∉ X := fun hm => by have := h.above g hm; have := (h.lt hg).1; omega
theorem own_same {w w' : World} {base : Nat} {e : TypeId} {sz n : Nat} {v : Value} {xs : List Value} (h : w.ownsRow base e sz v n xs) (hg : ∀ g, v.ownBlock = some g → w'.heap[g]? = w.heap[g]?) : w'.ownsRow base e sz v n xs := by
  obtain ⟨h1, h2⟩ := h
  refine ⟨h1, ?_⟩
  rcases h2 with h2 | ⟨g, cap, cur, hv, hgb, hh, r⟩
  · exact .inl h2
  · subst hv
    exact .inr ⟨g, cap, cur, rfl, hgb, by rw [hg g rfl]; exact hh, r⟩
/-- Whatever is written but its own row: blocks of Y, all of them in X. -/
theorem Gro.kept (h : Gro K e base w X l v csl) (k : Kept Y w w') (hY : ∀ b ∈ Y, b ∈ X) : Gro K e base w' X l v csl :=
  ⟨own_same h.own (fun g hg => k.2 g (h.lt hg).2 (fun hm => h.notIn hg (hY g hm))), Nat.le_trans h.room k.1, h.above, h.count, fun i x cs hx hc => K.kept (h.elts i x cs hx hc) (k.more (fun b hb => busy_mem.2 (.inr (hY b hb))))⟩
theorem Gro.below (h : Gro K e base w X l v csl) (k : Below w.heap.size w w') : Gro K e base w' X l v csl := h.kept (Y := []) (Kept.of_below k []) (fun b hb => by cases hb)
theorem Gro.alloc (h : Gro K e base w X l v csl) (o : Obj) : Gro K e base (w.alloc o) X l v csl := h.kept (Y := []) (Kept.alloc w o []) (fun b hb => by cases hb)
theorem Gro.set_ (h : Gro K e base w X l v csl) {p : Addr} (hp : p.block ∈ X) (u : Value) : Gro K e base (w.setCell p u) X l v csl := h.kept (Y := X) (Kept.setCell w hp u) (fun b hb => hb)
/-- Fewer blocks that are written. -/
theorem Gro.less (h : Gro K e base w X l v csl) (hX : ∀ b ∈ Y, b ∈ X) : Gro K e base w Y l v csl :=
  ⟨h.own, h.room, fun b hb => h.above b (hX b hb), h.count, fun i x cs hx hc => K.less (h.elts i x cs hx hc) (fun b _ hm => busy_mem.2 (or_map (busy_mem.1 hm) id (hX b)))⟩
/-- What append has left: the row with news behind, in its old place or in a new block. Elements stay, and so does all that avoids X and the row. -/
theorem Gro.rowKept (h : Gro K e base w X l v csl) (hg : w.grownBy w' v.ownBlock) : Kept (busy v X) w w' := Kept.of_grown_own hg (fun b hb => busy_mem.2 (.inl hb))
/-- One element more. -/
theorem Gro.push (h : Gro K e base w X l v csl) {x : α} {cs : List Value} (hR : K.R w (busy v X) x cs)
    (ho : w'.ownsRow base e K.sz v' (l.length + 1) (csl.flatten ++ cs)) (hg : w.grownBy w' v.ownBlock) (hv : v'.ownBlock = v.ownBlock ∨ v'.ownBlock = some w.heap.size) :
    Gro K e base w' X (l ++ [x]) v' (csl ++ [cs]) := by
  have hK := h.rowKept hg
  have cut : ∀ b, b < w.heap.size → b ∈ busy v' X → b ∈ busy v X := by
    intro b hb hm
    rcases busy_mem.1 hm with hm | hm
    · rcases hv with hv | hv
      · exact busy_mem.2 (.inl (by rw [← hv]; exact hm))
      · rw [hm] at hv; injection hv with hv; omega
    · exact busy_mem.2 (.inr hm)
  have hK' : Kept (busy v X ++ busy v' X) w w' := hK.more (fun b hb => List.mem_append.2 (.inl hb))
  have move : ∀ y c, K.R w (busy v X) y c → K.R w' (busy v' X) y c := by
    intro y c hy
    have h1 : K.R w (busy v X ++ busy v' X) y c := K.less hy (fun b hb hm => by
      rcases List.mem_append.1 hm with hm | hm
      · exact hm
      · exact cut b hb hm)
    exact K.less (K.kept h1 hK') (fun b _ hm => List.mem_append.2 (.inr hm))
  refine ⟨by rw [List.length_append, List.flatten_append, List.flatten_singleton]; exact ho, Nat.le_trans h.room hg.size, h.above, by rw [List.length_append, List.length_append, h.count]; rfl, fun i y c hy hc => ?_⟩
  rcases Nat.lt_or_ge i l.length with hi | hi
  · rw [List.getElem?_append_left hi] at hy
    rw [List.getElem?_append_left (by rw [h.count]; exact hi)] at hc
    exact move _ _ (h.elts i y c hy hc)
  · rw [List.getElem?_append_right hi] at hy
    rw [List.getElem?_append_right (by rw [h.count]; exact hi), h.count] at hc
    have hil : i - l.length = 0 := by
      have := (List.getElem?_eq_some_iff.1 hy).1; simp at this; exact this
    rw [hil] at hy hc
    injection hy with hy; injection hc with hc
    subst hy; subst hc
    exact move _ _ hR
/-- Four noughts appended, then stored over: one element more; between the append and the stores nothing else is written. -/
theorem Gro.push4 (hsz : K.sz = 4) (h : Gro K e base w X l v csl) {x : α} {z0 z1 z2 z3 c0 c1 c2 c3 : Value} {g cap' : Nat} (hR : K.R w (busy v X) x [c0, c1, c2, c3])
    (ho : w'.ownsRow base e K.sz v' (l.length + 1) (csl.flatten ++ [z0, z1, z2, z3])) (hg : w.grownBy w' v.ownBlock) (hv : v'.ownBlock = v.ownBlock ∨ v'.ownBlock = some w.heap.size) (hv' : v' = .slice (some ⟨g, 0, none⟩) (l.length + 1) cap') :
    Gro K e base ((((w'.setCell ⟨g, l.length * 4, none⟩ c0).setCell ⟨g, l.length * 4 + 1, none⟩ c1).setCell ⟨g, l.length * 4 + 2, none⟩ c2).setCell ⟨g, l.length * 4 + 3, none⟩ c3) X (l ++ [x]) v' (csl ++ [[c0, c1, c2, c3]]) := by
  have hob : v'.ownBlock = some g := by rw [hv']; rfl
  have hgX : g ∉ X := fun hm => by have := h.above g hm; have := (own_lt ho hob).1; omega
  have hK := h.rowKept hg
  have kS : Kept [g] w' ((((w'.setCell ⟨g, l.length * 4, none⟩ c0).setCell ⟨g, l.length * 4 + 1, none⟩ c1).setCell ⟨g, l.length * 4 + 2, none⟩ c2).setCell ⟨g, l.length * 4 + 3, none⟩ c3) :=
    (((Kept.setCell w' (by simp) _).trans (Kept.setCell _ (by simp) _)).trans (Kept.setCell _ (by simp) _)).trans (Kept.setCell _ (by simp) _)
  have cut : ∀ b, b < w.heap.size → b ∈ busy v' X → b ∈ busy v X := by
    intro b hb hm
    rcases busy_mem.1 hm with hm | hm
    · rcases hv with hv | hv
      · exact busy_mem.2 (.inl (by rw [← hv]; exact hm))
      · rw [hm] at hv; injection hv with hv; omega
    · exact busy_mem.2 (.inr hm)
  have hK' : Kept (busy v X ++ busy v' X) w w' := hK.more (fun b hb => List.mem_append.2 (.inl hb))
  have kS' := kS.more (X' := busy v' X) (fun b hb => by rw [List.mem_singleton] at hb; subst hb; exact busy_mem.2 (.inl hob))
  have move : ∀ y c, K.R w (busy v X) y c → K.R ((((w'.setCell ⟨g, l.length * 4, none⟩ c0).setCell ⟨g, l.length * 4 + 1, none⟩ c1).setCell ⟨g, l.length * 4 + 2, none⟩ c2).setCell ⟨g, l.length * 4 + 3, none⟩ c3) (busy v' X) y c := by
    intro y c hy
    have h1 : K.R w (busy v X ++ busy v' X) y c := K.less hy (fun b hb hm => by
      rcases List.mem_append.1 hm with hm | hm
      · exact hm
      · exact cut b hb hm)
    exact K.kept (K.less (K.kept h1 hK') (fun b _ hm => List.mem_append.2 (.inr hm))) kS'
  have hfl := h.flat
  rw [hsz] at hfl
  refine ⟨?_, ?_, h.above, by rw [List.length_append, List.length_append, h.count]; rfl, fun i y c hy hc => ?_⟩
  · subst hv'
    rw [List.length_append, List.flatten_append, List.flatten_singleton]
    rw [hsz] at ho ⊢
    exact own_last4 ho hfl
  · exact Nat.le_trans h.room (Nat.le_trans hg.size kS.1)
  · rcases Nat.lt_or_ge i l.length with hi | hi
    · rw [List.getElem?_append_left hi] at hy
      rw [List.getElem?_append_left (by rw [h.count]; exact hi)] at hc
      exact move _ _ (h.elts i y c hy hc)
    · rw [List.getElem?_append_right hi] at hy
      rw [List.getElem?_append_right (by rw [h.count]; exact hi), h.count] at hc
      have hil : i - l.length = 0 := by
        have := (List.getElem?_eq_some_iff.1 hy).1; simp at this; exact this
      rw [hil] at hy hc
      injection hy with hy; injection hc with hc
      subst hy; subst hc
      exact move _ _ hR
/-- It is a slice like any other when it is done. -/
theorem Gro.slR (h : Gro K e base w X l v csl) : ∃ a cap, v = .slice a l.length cap ∧ SlR K w X l a l.length cap := by
  have hmx : maxLen = 9223372036854775807 := by decide
  have hel : ∀ (i : Nat) (x : α) (cs : List Value), l[i]? = some x → csl[i]? = some cs → K.R w X x cs := fun i x cs hx hc => K.less (h.elts i x cs hx hc) (fun b _ hm => busy_mem.2 (.inr hm))
  rcases h.own.2 with ⟨rfl, h00⟩ | ⟨g, capn, cur, hv, h1, h2, h3, h4, h5, h6⟩
  · have h1 : csl = [] := List.length_eq_zero_iff.1 (by rw [h.count, h00])
    subst h1
    refine ⟨none, 0, by rw [h00], [], by simpa using h00.symm, fun i x cs hx _ => hel i x cs hx ‹_›, ?_⟩
    rw [h00]
    exact Sl.nil _ _ _
  · subst hv
    refine ⟨_, capn, rfl, csl, h.count, hel, h.count, h3, by omega, fun hp => ⟨g, 0, rfl, lt_of_block h2, fun hm => by have := h.above g hm; omega, fun i cs hi => ⟨h.len4 cs (List.mem_of_getElem? hi), fun j c hj => ?_⟩⟩⟩
    have h4' := h.len4 cs (List.mem_of_getElem? hi)
    have hjs : j < K.sz := by rw [← h4']; exact (List.getElem?_eq_some_iff.1 hj).1
    have hi' : i < l.length := by rw [← h.count]; exact (List.getElem?_eq_some_iff.1 hi).1
    rw [Nat.zero_add, h.own.cellAt (i * K.sz + j) (by calc i * K.sz + j < i * K.sz + K.sz := by omega
                                                          _ = (i + 1) * K.sz := by rw [Nat.add_mul]; omega
                                                          _ ≤ l.length * K.sz := Nat.mul_le_mul_right _ (by omega)), flat_get K.sz csl h.len4 i j cs hi hjs]
    exact hj
/-- Something kept apart from X and the row (another slice, a tree ..) stands behind an append of one element: the new row is none of its blocks. -/
theorem busy_cut {w : World} {v v' : Value} {X : List Nat} (hv : v'.ownBlock = v.ownBlock ∨ v'.ownBlock = some w.heap.size) : ∀ b, b < w.heap.size → b ∈ busy v' X → b ∈ busy v X := by
  intro b hb hm
  rcases busy_mem.1 hm with hm | hm
  · rcases hv with hv | hv
    · exact busy_mem.2 (.inl (by rw [← hv]; exact hm))
    · rw [hm] at hv; injection hv with hv; omega
  · exact busy_mem.2 (.inr hm)
end
end Go.Proofs.Ytmiinmndbkdjbaa
