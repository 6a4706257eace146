/- The contract of simple; condition: the term is built as it must be. -/
import Derived.Test.YtjpkljkmignnjaaSimpA
import Derived.Test.YtjpkljkmignnjaaSimpS
import Derived.Test.YtjpkljkmignnjaaReg
import Derived.Test.YtjpkljkmignnjaaSameE
import Derived.Deep.RegionHeld3
import Derived.Deep.RegionLaw
import Derived.Deep.DeepCutAuto
namespace Go.Proofs.Ytjpkljkmignnjaa
set_option linter.unusedVariables false
set_option linter.unusedSimpArgs false
open Go.RowKit
theorem far_one {w : World} {h g i j : Nat} {u x : Value} (hc : w.cell? ⟨h, i, none⟩ = some x) (hne : h ≠ g) : (w.setCell ⟨g, j, none⟩ u).cell? ⟨h, i, none⟩ = some x := by
  rw [World.cell?_of_block (w := w) (Below.heap_setCell w ⟨g, j, none⟩ u h hne)]; exact hc
theorem far_four {w : World} {h g i : Nat} {a b c d x : Value} (hc : w.cell? ⟨h, i, none⟩ = some x) (hne : h ≠ g) : ((((w.setCell ⟨g, 0, none⟩ a).setCell ⟨g, 1, none⟩ b).setCell ⟨g, 2, none⟩ c).setCell ⟨g, 3, none⟩ d).cell? ⟨h, i, none⟩ = some x :=
  far_one (far_one (far_one (far_one hc hne) hne) hne) hne
theorem blk4 {w : World} {g : Nat} {t : TypeId} {a b c d : Value} (h : Mem.Blk w g t #[a, b, c, d]) : w.cell? ⟨g, 0, none⟩ = some a ∧ w.cell? ⟨g, 1, none⟩ = some b ∧ w.cell? ⟨g, 2, none⟩ = some c ∧ w.cell? ⟨g, 3, none⟩ = some d ∧
    w.frozen? ⟨g, 0, none⟩ = false ∧ w.frozen? ⟨g, 1, none⟩ = false ∧ w.frozen? ⟨g, 2, none⟩ = false ∧ w.frozen? ⟨g, 3, none⟩ = false :=
  ⟨h.cell 0, h.cell 1, h.cell 2, h.cell 3, h.frozen 0, h.frozen 1, h.frozen 2, h.frozen 3⟩
theorem set_comm {w : World} {p q : Addr} (h : p.block ≠ q.block) (x y : Value) : (w.setCell p x).setCell q y = (w.setCell q y).setCell p x := by
  simp only [World.setCell]
  congr 1
  apply Array.ext_getElem?
  intro i
  simp only [Array.getElem?_modify]
  by_cases h1 : p.block = i <;> by_cases h2 : q.block = i <;> simp_all
theorem set4_comm {w : World} {g n h j : Nat} (hne : g ≠ h) {a b c d v : Value} :
    ((((w.setCell ⟨g, n, none⟩ a).setCell ⟨g, n + 1, none⟩ b).setCell ⟨g, n + 2, none⟩ c).setCell ⟨g, n + 3, none⟩ d).setCell ⟨h, j, none⟩ v =
    ((((w.setCell ⟨h, j, none⟩ v).setCell ⟨g, n, none⟩ a).setCell ⟨g, n + 1, none⟩ b).setCell ⟨g, n + 2, none⟩ c).setCell ⟨g, n + 3, none⟩ d := by
  rw [set_comm (p := ⟨g, n + 3, none⟩) (q := ⟨h, j, none⟩) hne, set_comm (p := ⟨g, n + 2, none⟩) (q := ⟨h, j, none⟩) hne, set_comm (p := ⟨g, n + 1, none⟩) (q := ⟨h, j, none⟩) hne, set_comm (p := ⟨g, n, none⟩) (q := ⟨h, j, none⟩) hne]
/-- The closure 'empty': is the i-th of the terms nought? -/
theorem empty_any (h0 g n cap i : Nat) (o : Int) (W : World) (h1 : W.cell? ⟨h0, 3, none⟩ = some (.slice (some ⟨g, 0, none⟩) n cap)) (h2 : W.cell? ⟨g, i * 4, none⟩ = some (.int .i64 o)) (hi : i < n) (hn : n ≤ 1000000) :
    Calls Try.prog 41 #[.int .i64 (i : Nat), .pointer (some ⟨h0, 0, none⟩)] W fun e w' => e = .returned (.bool (o == 1)) ∧ W = w' := by
  have i0 : (0 : Int) ≤ (i : Int) := by omega
  have i1 : (i : Int) < (n : Int) := by omega
  go_enter Try.func41, Try.ntmps41
  go_wp2
  go_ret
  exact ⟨rfl, rfl⟩
/-- Where simple stands when its term is laid: the block h0 is what comes of it. -/
def SimpSt (w W0 : World) (X : List Nat) (h0 : Nat) (ex : List Ex) (op : Int) (nm : ByteArray) (a : Option Addr) (len cap : Nat) (a2 : Option Addr) (len2 cap2 : Nat) (a3 : Option Addr) (cap3 : Nat) : Prop :=
  Below w.heap.size w W0 ∧ Mem.Blk W0 w.heap.size 33 #[.int .i64 op, .string nm, .slice a len cap, .slice a2 len2 cap2] ∧ Mem.Blk W0 (w.heap.size + 1) 33 #[.int .i64 0, .string ⟨#[]⟩, .slice none 0 0, .slice none 0 0] ∧
  Mem.Blk W0 h0 33 #[.int .i64 op, .string nm, .slice a3 len cap3, .slice none 0 0] ∧ w.heap.size + 1 < h0 ∧ SlE W0 (h0 :: (w.heap.size + 1) :: X) ex a3 len cap3
set_option maxRecDepth 100000 in
set_option maxHeartbeats 4000000 in
theorem simple_any : ∀ (r : Nat) (e : Te), e.rk ≤ r → bT e = true → ∀ (X : List Nat) (cs : List Value) (w : World), RepT w X e cs → (∀ b ∈ X, b < w.heap.size) →
    Calls Try.prog 24 #[.agg cs.toArray] w fun x w' => (∃ cs', x = .returned (.agg cs'.toArray) ∧ RepT w' X (sT e) cs') ∧ Below w.heap.size w w' := by
  intro r
  induction r with
  | zero => intro e h; have := e.rk_pos; omega
  | succ r ih =>
    intro e hr hb X cs w hR hX
    obtain ⟨op, nm, ex, te, a, len, cap, a2, len2, cap2, rfl, rfl, i1, i3, hS, hT⟩ := hR.inv
    obtain ⟨q1, q2, q3, q4, q5⟩ := bT_inv hb
    obtain ⟨f1, f2, f3⟩ := hS.facts
    obtain ⟨f4, f5, f6⟩ := hT.facts
    have hlen : len ≤ 1000000 := by
      rw [← f1]; have : arX op ≤ 1 := by unfold arX; split <;> (try split) <;> omega
      omega
    have HS := Lib.hid hS
    have HT := Lib.hid hT
    have HXX := Lib.hid hX
    have I1 := Lib.hid i1
    have I3 := Lib.hid i3
    have HL := Lib.hid f1
    have HL2 := Lib.hid f4
    have HI : Hid (∀ (k : Nat) e1, te[k]? = some e1 → ∀ Y cs1 W, RepT W Y e1 cs1 → (∀ b ∈ Y, b < W.heap.size) → Calls Try.prog 24 #[.agg cs1.toArray] W fun x w' => (∃ cs', x = .returned (.agg cs'.toArray) ∧ RepT w' Y (sT e1) cs') ∧ Below W.heap.size W w') := by
      intro k e1 hk Y cs1 W hR1 hY
      exact ih e1 (by have := Te.rk_lt (op := op) (nm := nm) (x := ex) hk; omega) (q5 e1 (List.mem_of_getElem? hk)) Y cs1 W hR1 hY
    have HW0 := Lib.hid (((Below.refl w.heap.size w).alloc (Nat.le_refl _) (.cells #[.int .i64 op, .string nm, .slice a len cap, .slice a2 len2 cap2] 33)).alloc (by simp) (.cells #[.int .i64 0, .string ⟨#[]⟩, .slice none 0 0, .slice none 0 0] 33))
    have BX := Lib.hid ((Mem.Blk.new w 33 #[.int .i64 op, .string nm, .slice a len cap, .slice a2 len2 cap2]).alloc (.cells #[.int .i64 0, .string ⟨#[]⟩, .slice none 0 0, .slice none 0 0] 33))
    have BY := Lib.hid (Mem.Blk.new (w.alloc (.cells #[.int .i64 op, .string nm, .slice a len cap, .slice a2 len2 cap2] 33)) 33 #[.int .i64 0, .string ⟨#[]⟩, .slice none 0 0, .slice none 0 0])
    rw [show (w.alloc (.cells #[.int .i64 op, .string nm, .slice a len cap, .slice a2 len2 cap2] 33)).heap.size = w.heap.size + 1 by simp] at BY
    have HKV : Hid (∀ W, Below w.heap.size w W → SlE W X ex a len cap ∧ ∀ b ∈ X, b < W.heap.size) := fun W h => ⟨HS.out.kept (Kept.of_below h X), fun b hb => Nat.lt_of_lt_of_le (HXX.out b hb) h.size⟩
    clear ih hr hR hS hT i1 i3 f1 f4 hX
    have hsz : Hid (((w.alloc (.cells #[.int .i64 op, .string nm, .slice a len cap, .slice a2 len2 cap2] 33)).alloc (.cells #[.int .i64 0, .string ⟨#[]⟩, .slice none 0 0, .slice none 0 0] 33)).heap.size = w.heap.size + 1 + 1) := by show _ = _; simp
    go_enter Try.func24, Try.ntmps24
    go_wp2_with fail
    have c0 : _ = some (Value.int .i64 op) := BX.out.cell 0
    have c1 : _ = some (Value.string nm) := BX.out.cell 1
    have c2 : _ = some (Value.slice a len cap) := BX.out.cell 2
    generalize (w.alloc (.cells #[.int .i64 op, .string nm, .slice a len cap, .slice a2 len2 cap2] 33)).alloc (.cells #[.int .i64 0, .string ⟨#[]⟩, .slice none 0 0, .slice none 0 0] 33) = v at *
    have hne : w.heap.size ≠ v.heap.size := by rw [hsz.out]; omega
    have HA : Hid (SlE v.drew ((w.heap.size + 1) :: X) ex a len cap ∧ ∀ b ∈ (w.heap.size + 1) :: X, b < v.drew.heap.size) := by
      have h := HKV.out v.drew HW0.out.drew
      refine ⟨(HS.out.less (X' := (w.heap.size + 1) :: X) (fun b hb hm => by rcases List.mem_cons.1 hm with rfl | hm; exact absurd hb (by omega); exact hm)).kept (Kept.of_below HW0.out.drew _), fun b hb => ?_⟩
      rcases List.mem_cons.1 hb with rfl | hb
      · show _ < v.heap.size; rw [hsz.out]; omega
      · exact h.2 b hb
    have HB : Hid (SlE (v.alloc (.cells #[.int .i64 0, .string ⟨#[]⟩, .slice none 0 0, .slice none 0 0] 33)).drew (v.heap.size :: (w.heap.size + 1) :: X) ex a len cap ∧ ∀ b ∈ v.heap.size :: (w.heap.size + 1) :: X, b < (v.alloc (.cells #[.int .i64 0, .string ⟨#[]⟩, .slice none 0 0, .slice none 0 0] 33)).drew.heap.size) := by
      have hW := (HW0.out.alloc HW0.out.size (.cells #[.int .i64 0, .string ⟨#[]⟩, .slice none 0 0, .slice none 0 0] 33)).drew
      have h := HKV.out _ hW
      have hv : (v.alloc (.cells #[.int .i64 0, .string ⟨#[]⟩, .slice none 0 0, .slice none 0 0] 33)).drew.heap.size = v.heap.size + 1 := by show (v.alloc _).heap.size = _; simp
      refine ⟨(HS.out.less (X' := v.heap.size :: (w.heap.size + 1) :: X) (fun b hb hm => by rcases List.mem_cons.1 hm with rfl | hm; exact absurd hb (by rw [hsz.out]; omega); rcases List.mem_cons.1 hm with rfl | hm; exact absurd hb (by omega); exact hm)).kept (Kept.of_below hW _), fun b hb => ?_⟩
      rcases List.mem_cons.1 hb with rfl | hb
      · rw [hv]; omega
      rcases List.mem_cons.1 hb with rfl | hb
      · rw [hv, hsz.out]; omega
      · exact h.2 b hb
    have HSX : Hid (∀ W Y, Below w.heap.size w W → (∀ b ∈ Y, b ∈ X ∨ w.heap.size ≤ b) → SlE W Y ex a len cap) := fun W Y hW hY => (HS.out.less (fun b hb hm => (hY b hm).resolve_right (by omega))).kept (Kept.of_below hW _)
    clear HKV HS
    go_cut [3] (fun p W0 => ∃ h0 a3 cap3, p = .pointer (some ⟨h0, 0, none⟩) ∧ Hid (SimpSt w W0 X h0 ex op nm a len cap a2 len2 cap2 a3 cap3))
    case first =>
      go_region_held3 (fun w' => w'.cell? ⟨w.heap.size, 0, none⟩ = some (.int .i64 op) ∧ w'.cell? ⟨w.heap.size, 1, none⟩ = some (.string nm) ∧ w'.cell? ⟨w.heap.size, 2, none⟩ = some (.slice a len cap)) (first | (with_reducible exact ⟨d0, d1, d2⟩) | (with_reducible exact ⟨far_four d0 hne, far_four d1 hne, far_four d2 hne⟩) | go_keep)
        (first
          | (go_at_call 40
             (with_reducible refine (cloneE_any ex _ a len cap _ HA.out.1 HA.out.2 hlen).mono ?_)
             rintro y w1 ⟨⟨a3, cap3, rfl, hcl⟩, b1⟩
             obtain ⟨d0, d1, d2⟩ : w1.cell? ⟨w.heap.size, 0, none⟩ = some (.int .i64 op) ∧ w1.cell? ⟨w.heap.size, 1, none⟩ = some (.string nm) ∧ w1.cell? ⟨w.heap.size, 2, none⟩ = some (.slice a len cap) := ⟨(BX.out.drew.below b1).cell 0, (BX.out.drew.below b1).cell 1, (BX.out.drew.below b1).cell 2⟩)
          | (go_at_call 40
             (with_reducible refine (cloneE_any ex _ a len cap _ HB.out.1 HB.out.2 hlen).mono ?_)
             rintro y w1 ⟨⟨a3, cap3, rfl, hcl⟩, b1⟩
             obtain ⟨d0, d1, d2⟩ : w1.cell? ⟨w.heap.size, 0, none⟩ = some (.int .i64 op) ∧ w1.cell? ⟨w.heap.size, 1, none⟩ = some (.string nm) ∧ w1.cell? ⟨w.heap.size, 2, none⟩ = some (.slice a len cap) := ⟨((BX.out.alloc _).drew.below b1).cell 0, ((BX.out.alloc _).drew.below b1).cell 1, ((BX.out.alloc _).drew.below b1).cell 2⟩
             have BA := (Mem.Blk.new v 33 #[.int .i64 0, .string ⟨#[]⟩, .slice none 0 0, .slice none 0 0]).drew.below b1
             obtain ⟨z0, z1, z2, z3, y0, y1, y2, y3⟩ := blk4 BA))
      · have HF : Hid (SimpSt w (w1.alloc (.cells #[.int .i64 op, .string nm, .slice a3 len cap3, .slice none 0 0] 33)) X w1.heap.size ex op nm a len cap a2 len2 cap2 a3 cap3) := by
          have hs1 : w.heap.size + 1 + 1 ≤ w1.heap.size := by have := b1.size; rw [show v.drew.heap.size = v.heap.size from rfl, hsz.out] at this; exact this
          refine ⟨((HW0.out.drew.trans (b1.mono HW0.out.size))).alloc (by omega) _, (BX.out.drew.below b1).alloc _, (BY.out.drew.below b1).alloc _, Mem.Blk.new _ _ _, by omega, ?_⟩
          exact (hcl.less (fun b hb hm => by rcases List.mem_cons.1 hm with rfl | hm; exact absurd hb (Nat.lt_irrefl _); exact hm)).kept (Kept.alloc _ _ _)
        go_wp2_with fail
        go_meet
        case rel => exact ⟨_, _, _, rfl, HF.out⟩
      · have HF : Hid (SimpSt w ((((w1.setCell ⟨v.heap.size, 0, none⟩ (.int .i64 op)).setCell ⟨v.heap.size, 1, none⟩ (.string nm)).setCell ⟨v.heap.size, 2, none⟩ (.slice a3 len cap3)).setCell ⟨v.heap.size, 3, none⟩ (.slice none 0 0)) X v.heap.size ex op nm a len cap a2 len2 cap2 a3 cap3) := by
          have hv1 : v.heap.size < w1.heap.size := BA.lt
          have k4 : Kept [v.heap.size] w1 ((((w1.setCell ⟨v.heap.size, 0, none⟩ (.int .i64 op)).setCell ⟨v.heap.size, 1, none⟩ (.string nm)).setCell ⟨v.heap.size, 2, none⟩ (.slice a3 len cap3)).setCell ⟨v.heap.size, 3, none⟩ (.slice none 0 0)) :=
            (((Kept.setCell w1 (by simp) _).trans (Kept.setCell _ (by simp) _)).trans (Kept.setCell _ (by simp) _)).trans (Kept.setCell _ (by simp) _)
          have hb0 : Below w.heap.size w w1 := (HW0.out.alloc HW0.out.size _).drew.trans (b1.mono (Nat.le_trans HW0.out.size (by show v.heap.size ≤ (v.alloc _).heap.size; simp)))
          have hge : w.heap.size ≤ v.heap.size := by rw [hsz.out]; omega
          refine ⟨(((hb0.setCell hge _).setCell hge _).setCell hge _).setCell hge _, ?_, ?_, ?_, by rw [hsz.out]; omega, ?_⟩
          · exact (((((BX.out.alloc _).drew.below b1).far hne _).far hne _).far hne _).far hne _
          · have hne2 : w.heap.size + 1 ≠ v.heap.size := by rw [hsz.out]; omega
            exact (((((BY.out.alloc _).drew.below b1).far hne2 _).far hne2 _).far hne2 _).far hne2 _
          · exact (((BA.set_ 0 _).set_ 1 _).set_ 2 _).set_ 3 _
          · exact hcl.kept (k4.more (by simp))
        go_wp2_with fail
        go_meet
        case rel => exact ⟨_, _, _, rfl, HF.out⟩
    case rest =>
      obtain ⟨h0, a3, cap3, rfl, HF⟩ := hcut
      obtain ⟨W0, rfl⟩ : ∃ W : World, W = wc := ⟨_, rfl⟩
      have R0 : Hid (SimpRel w W0.heap.size W0 X h0 ex te op nm a len cap a2 len2 cap2 a3 cap3 0 (.slice none 0 0) []) := by
        obtain ⟨p1, p2, p3, p4, p5, p6⟩ := HF.out
        exact ⟨p1, p2, p3, p4, World.ownsRow_nil _ _ _ _, Nat.le_refl _, p5, p4.lt, rfl, by simpa [busy, Value.ownBlock] using p6, fun j t c _ h => by simp at h⟩
      have HTY : Hid (∀ W Y, Below w.heap.size w W → (∀ b ∈ Y, b ∈ X ∨ w.heap.size ≤ b) → SlT W Y te a2 len2 cap2) := fun W Y hW hY => (HT.out.less (fun b hb hm => (hY b hm).resolve_right (by omega))).kept (Kept.of_below hW _)
      have e3 : W0.cell? ⟨w.heap.size, 3, none⟩ = some (.slice a2 len2 cap2) := R0.out.b0.cell 3
      try clear HF
      go_wp2_with fail
      clear e3
      generalize W0.heap.size = base at R0
      go_loopw [18] (fun i wr => ∃ (k : Nat) (v : Value) (csl : List (List Value)), i = .int .i64 (k : Nat) ∧ k ≤ len2 ∧ Hid (SimpRel w base wr X h0 ex te op nm a len cap a2 len2 cap2 a3 cap3 k v csl)) (fun i _ => len2 - (intOf i).toNat)
      case atStart => exact ⟨0, _, _, rfl, Nat.zero_le _, R0.out⟩
      case round =>
        clear R0
        obtain ⟨k, v, csl, rfl, hk, HR⟩ := hrel
        obtain ⟨av, cv, rfl⟩ := own_slice HR.out.own
        by_cases hlt : k < len2
        · have hY : ∀ b ∈ busy (.slice av k cv) (h0 :: (w.heap.size + 1) :: X), b ∈ X ∨ w.heap.size ≤ b := by
            intro b hb'
            rcases busy_mem.1 hb' with hm | hm
            · exact .inr (by have := own_lt HR.out.own hm; have := HR.out.lo; have := HR.out.hi; omega)
            · rcases List.mem_cons.1 hm with rfl | hm
              · exact .inr (by have := HR.out.lo; omega)
              · rcases List.mem_cons.1 hm with rfl | hm
                · exact .inr (by omega)
                · exact .inl hm
          have hYlt : ∀ b ∈ busy (.slice av k cv) (h0 :: (w.heap.size + 1) :: X), b < wr.heap.size := by
            intro b hb'
            rcases busy_mem.1 hb' with hm | hm
            · exact (own_lt HR.out.own hm).2
            · rcases List.mem_cons.1 hm with rfl | hm
              · exact HR.out.b2.lt
              · rcases List.mem_cons.1 hm with rfl | hm
                · exact HR.out.b1.lt
                · exact Nat.lt_of_lt_of_le (HXX.out b hm) HR.out.below.size
          obtain ⟨b, o, op', nm', ex', te', a', len', cap', a4, len4, cap4, rfl, hb, hbx, hle, j1, j3, hS', hS3, g0, g1, g2, g3⟩ := (HTY.out wr _ HR.out.below hY).at k hlt
          have HC := Lib.hid (fun W (hW : Kept (busy (.slice av k cv) (h0 :: (w.heap.size + 1) :: X)) wr W) => HI.out k _ hle (busy (.slice av k cv) (h0 :: (w.heap.size + 1) :: X)) [.int .i64 op', .string nm', .slice a' len' cap', .slice a4 len4 cap4] W (RepT.mk' j1 j3 (hS'.kept hW) (hS3.kept hW)) (fun b hb' => Nat.lt_of_lt_of_le (hYlt b hb') hW.1))
          have HLE := Lib.hid hle
          clear hle hS' hS3 hY hYlt hb hbx
          generalize Te.mk op' nm' ex' te' = e1 at *
          -- the worlds at the call
          have hzs : Hid (∀ o : Obj, (wr.alloc o).heap.size = wr.heap.size + 1) := fun o => by simp
          have KA := Lib.hid (HC.out ((wr.alloc (.cells #[.int .i64 op', .string nm', .slice a' len' cap', .slice a4 len4 cap4] 33)).drew) ⟨by show _ ≤ (wr.alloc _).heap.size; rw [hzs.out]; omega, fun b hb _ => Below.heap_alloc wr _ b hb⟩)
          have KB := Lib.hid (HC.out (((wr.alloc (.cells #[.int .i64 op', .string nm', .slice a' len' cap', .slice a4 len4 cap4] 33)).alloc (.cells #[.int .i64 0, .string ⟨#[]⟩, .slice none 0 0, .slice none 0 0] 33)).drew) ⟨by show _ ≤ ((wr.alloc _).alloc _).heap.size; simp; omega, fun b hb _ => (Below.heap_alloc (wr.alloc _) _ b (by rw [hzs.out]; omega)).trans (Below.heap_alloc wr _ b hb)⟩)
          have XA := Lib.hid (Mem.Blk.new wr 33 #[.int .i64 op', .string nm', .slice a' len' cap', .slice a4 len4 cap4])
          have BA0 := Lib.hid ((Below.refl wr.heap.size wr).alloc (Nat.le_refl _) (.cells #[.int .i64 op', .string nm', .slice a' len' cap', .slice a4 len4 cap4] 33))
          have HBA := Lib.hid (HR.out.b2.alloc (.cells #[.int .i64 op', .string nm', .slice a' len' cap', .slice a4 len4 cap4] 33))
          have n3 : wr.cell? ⟨h0, 3, none⟩ = some (.slice av k cv) := HR.out.b2.cell 3
          have hh0 : h0 < wr.heap.size := HR.out.b2.lt
          clear HC
          go_wp2_with fail
          have hzv := Lib.hid (hzs.out (.cells #[.int .i64 op', .string nm', .slice a' len' cap', .slice a4 len4 cap4] 33))
          have hfl : Hid (csl.flatten.length = k * 4) := HR.out.own.1
          have hne2 : wr.heap.size ≠ h0 := by omega
          have HRM := Lib.hid HR.out.room
          have HHI := Lib.hid HR.out.hi
          have HK2 := Lib.hid HL2.out
          have hkm : Hid (k + 1 ≤ 1000000) := by
            show _ ≤ _
            have h2 := q2
            have : arT op ≤ 2 := by unfold arT; repeat' split <;> omega
            rw [HL2.out] at h2; omega
          generalize (wr.alloc (.cells #[.int .i64 op', .string nm', .slice a' len' cap', .slice a4 len4 cap4] 33)) = vx at *
          have s0 : vx.cell? ⟨wr.heap.size, 0, none⟩ = some (.int .i64 op') := XA.out.cell 0
          have s1 : vx.cell? ⟨wr.heap.size, 1, none⟩ = some (.string nm') := XA.out.cell 1
          have s2 : vx.cell? ⟨wr.heap.size, 2, none⟩ = some (.slice a' len' cap') := XA.out.cell 2
          have s3 : vx.cell? ⟨wr.heap.size, 3, none⟩ = some (.slice a4 len4 cap4) := XA.out.cell 3
          have s4 : vx.cell? ⟨h0, 3, none⟩ = some (.slice av k cv) := HBA.out.cell 3
          have hvx : wr.heap.size < vx.heap.size := by rw [hzv.out]; omega
          have hvx2 : h0 < vx.heap.size := by rw [hzv.out]; omega
          clear hzs g0 g1 g2 g3 n3
          refine wp_region_till (S := fun W => W.cell? ⟨h0, 3, none⟩ = some (.slice av k cv) ∧ W.cell? ⟨wr.heap.size, 0, none⟩ = some (.int .i64 op') ∧ W.cell? ⟨wr.heap.size, 1, none⟩ = some (.string nm') ∧ W.cell? ⟨wr.heap.size, 2, none⟩ = some (.slice a' len' cap') ∧ W.cell? ⟨wr.heap.size, 3, none⟩ = some (.slice a4 len4 cap4)) 6 (by kernel_rfl) ?_
          refine till_take (i := 0) (v := ?_) rfl (by kernel_rfl) (fun _ _ _ h => h) (Or.inl ⟨by rfl, ?_⟩) ⟨s4, s0, s1, s2, s3⟩ ?_
          rotate_left
          · intro W hS
            obtain ⟨t4, t0, t1, t2, t3⟩ := hS
            go_simp
            with_reducible rfl
          simp only [Act.put, List.setIfInBounds_toArray, List.set_cons_zero, List.set_cons_succ]
          refine till_take (i := 1) (v := ?_) rfl (by kernel_rfl) (fun _ _ _ h => h) (Or.inl ⟨by rfl, ?_⟩) ⟨s4, s0, s1, s2, s3⟩ ?_
          rotate_left
          · intro W hS
            obtain ⟨t4, t0, t1, t2, t3⟩ := hS
            go_simp
            with_reducible rfl
          simp only [Act.put, List.setIfInBounds_toArray, List.set_cons_zero, List.set_cons_succ]
          refine till_take (i := 2) (v := ?_) rfl (by kernel_rfl) (fun _ _ _ h => h) (Or.inl ⟨by rfl, ?_⟩) ⟨s4, s0, s1, s2, s3⟩ ?_
          rotate_left
          · intro W hS
            obtain ⟨t4, t0, t1, t2, t3⟩ := hS
            go_simp
            with_reducible rfl
          simp only [Act.put, List.setIfInBounds_toArray, List.set_cons_zero, List.set_cons_succ]
          refine till_take (i := 4) (v := ?_) rfl (by kernel_rfl) (fun _ _ _ h => h) (Or.inl ⟨by rfl, ?_⟩) ⟨s4, s0, s1, s2, s3⟩ ?_
          rotate_left
          · intro W hS
            obtain ⟨t4, t0, t1, t2, t3⟩ := hS
            go_simp
            with_reducible rfl
          simp only [Act.put, List.setIfInBounds_toArray, List.set_cons_zero, List.set_cons_succ]
          refine till_two (i := 3) (j := 5) (by kernel_rfl) rfl rfl (fun K' hK => ?_) (fun K' hK => ?_)
          · go_simp
            go_at_call 24
            (with_reducible refine KA.out.mono ?_)
            rintro y w1 ⟨⟨cs', rfl, hrep⟩, b1⟩
            have HB1 := Lib.hid (BA0.out.drew.trans (b1.mono BA0.out.size))
            have XW := Lib.hid (XA.out.drew.below b1)
            have HW := Lib.hid (HBA.out.drew.below b1)
            refine hK _ _ ⟨HW.out.cell 3, XW.out.cell 0, XW.out.cell 1, XW.out.cell 2, XW.out.cell 3⟩ ?_
            clear hK K'
            try simp only [Act.put, List.setIfInBounds_toArray, List.set_cons_zero, List.set_cons_succ]
            refine till_one (i := 5) (by kernel_rfl) rfl (fun K' hK => ?_)
            go_simp
            have HB2 := Lib.hid (HB1.out.alloc HB1.out.size (.cells #[.int .i64 0, .string ⟨#[]⟩, .slice none 0 0, .slice none 0 0] 33))
            have XW2 := Lib.hid (XW.out.alloc (.cells #[.int .i64 0, .string ⟨#[]⟩, .slice none 0 0, .slice none 0 0] 33))
            have HW2 := Lib.hid (HW.out.alloc (.cells #[.int .i64 0, .string ⟨#[]⟩, .slice none 0 0, .slice none 0 0] 33))
            have BZ := Lib.hid (Mem.Blk.new w1 33 #[.int .i64 0, .string ⟨#[]⟩, .slice none 0 0, .slice none 0 0])
            have HREP := Lib.hid (hrep.kept (Kept.alloc w1 (.cells #[.int .i64 0, .string ⟨#[]⟩, .slice none 0 0, .slice none 0 0] 33) _))
            refine hK _ _ ⟨HW2.out.cell 3, XW2.out.cell 0, XW2.out.cell 1, XW2.out.cell 2, XW2.out.cell 3⟩ ?_
            clear hK K' HB1 XW HW hrep b1
            generalize (w1.alloc (.cells #[.int .i64 0, .string ⟨#[]⟩, .slice none 0 0, .slice none 0 0] 33)) = W1 at *
            generalize w1.heap.size = z at *
            obtain ⟨o5, e5, x5, t5, p5, l5, r5, p6, l6, r6, _, rfl, _⟩ := HREP.out.inv
            refine till_last (by kernel_rfl) rfl (by kernel_rfl) (fun K' hK => ?_)
            refine step_ap infoT Try.underlying28 rfl (by decide) rfl (.tmp 23) (.tmp 27) rfl rfl (own_below HR.out.own HB2.out) (Nat.le_trans HRM.out HB2.out.size) ⟨z, 0, none⟩ 1 1 [.int .i64 0, .string ⟨#[]⟩, .slice none 0 0, .slice none 0 0] rfl rfl (fun j u hj => by rw [Mem.add0, BZ.out.cell]; simpa using hj) (by simp [Value.oneCell']) (by have := hkm.out; unfold maxLen; omega) (by have := hkm.out; omega) ?_
            intro v' w2 o' g' hv'
            refine hK _ _ ?_
            clear hK K'
            have O2 := Lib.hid o'
            have G2 := Lib.hid g'
            have V2 := Lib.hid hv'
            obtain ⟨g, capn, rfl, hg0, hg1, hg2, hob⟩ := own_form o' (by omega)
            obtain ⟨u0, u1, u2, u3, y0, y1, y2, y3⟩ := own_tail4 o' hfl.out
            have hox : ∀ b, (Value.slice av k cv).ownBlock = some b → b < wr.heap.size ∧ base ≤ b := fun b hb => ⟨(own_lt HR.out.own hb).2, (own_lt HR.out.own hb).1⟩
            have H2 := Lib.hid ((g'.block _ HW2.out.lt (fun e => by have := (hox _ e.symm).2; have := HHI.out; omega)).trans HW2.out)
            have hgh : h0 ≠ g := by have := HHI.out; omega
            have hhg : g ≠ h0 := fun e => hgh e.symm
            have FIN := Lib.hid (HR.out.step HB2.out HLE.out HREP.out O2.out G2.out V2.out rfl)
            clear o' g' hv' hob hox HR HB2 HREP O2 G2 V2 XW2 HW2 KA KB XA BA0 HBA BZ s0 s1 s2 s3 s4
            have i0 : (0 : Int) ≤ (k : Int) := by omega
            have i1 : (k : Int) < (k : Int) + 1 := by omega
            have m4 : w2.cell? ⟨h0, 3, none⟩ = some (.slice av k cv) := Mem.Blk.cell H2.out 3
            have m5 : w2.frozen? ⟨h0, 3, none⟩ = false := Mem.Blk.frozen H2.out 3
            refine any_take (i := 7) (v := ?_) rfl (by kernel_rfl) (fun _ _ _ h => h) (Or.inl ⟨by rfl, ?_⟩) ?_
            rotate_left
            · intro W
              go_simp
              with_reducible rfl
            simp only [Act.put, List.setIfInBounds_toArray, List.set_cons_zero, List.set_cons_succ]
            refine any_take (i := 9) (v := ?_) rfl (by kernel_rfl) (fun _ _ _ h => h) (Or.inl ⟨by rfl, ?_⟩) ?_
            rotate_left
            · intro W
              go_simp
              with_reducible rfl
            simp only [Act.put, List.setIfInBounds_toArray, List.set_cons_zero, List.set_cons_succ]
            refine any_two (i := 8) (j := 10) (by kernel_rfl) rfl rfl (fun K' hK => ?_) (fun K' hK => ?_)
            · go_simp
              refine hK _ _ ?_
              clear hK K'
              refine any_one (i := 10) (by kernel_rfl) rfl (fun K' hK => ?_)
              go_simp
              refine hK _ _ ?_
              clear hK K'
              refine wpAny_done (by kernel_rfl) ?_ _
              clear u0 u1 u2 u3 y0 y1 y2 y3 m4 m5 H2
              go_wp2
              go_roundw
              case rel => exact ⟨k + 1, _, _, by go_num, by omega, FIN.out⟩
              case measure => simp [intOf]; omega
            · go_simp
              refine hK _ _ ?_
              clear hK K'
              refine any_one (i := 8) (by kernel_rfl) rfl (fun K' hK => ?_)
              go_simp
              refine hK _ _ ?_
              clear hK K'
              refine wpAny_done (by kernel_rfl) ?_ _
              clear u0 u1 u2 u3 y0 y1 y2 y3 m4 m5 H2
              rw [set4_comm hhg] at FIN
              go_wp2
              go_roundw
              case rel => exact ⟨k + 1, _, _, by go_num, by omega, FIN.out⟩
              case measure => simp [intOf]; omega
          · go_simp
            have hS1 : (vx.alloc (.cells #[.int .i64 0, .string ⟨#[]⟩, .slice none 0 0, .slice none 0 0] 33)).drew.cell? ⟨h0, 3, none⟩ = some (.slice av k cv) := (HBA.out.alloc _).drew.cell 3
            refine hK _ _ ⟨hS1, (XA.out.alloc _).drew.cell 0, (XA.out.alloc _).drew.cell 1, (XA.out.alloc _).drew.cell 2, (XA.out.alloc _).drew.cell 3⟩ ?_
            clear hK K' hS1
            try simp only [Act.put, List.setIfInBounds_toArray, List.set_cons_zero, List.set_cons_succ]
            refine till_one (i := 3) (by kernel_rfl) rfl (fun K' hK => ?_)
            go_simp
            go_at_call 24
            (with_reducible refine KB.out.mono ?_)
            rintro y W1 ⟨⟨cs', rfl, hrep⟩, b1⟩
            have HB2 := Lib.hid ((BA0.out.alloc BA0.out.size (.cells #[.int .i64 0, .string ⟨#[]⟩, .slice none 0 0, .slice none 0 0] 33)).drew.trans (b1.mono (Nat.le_trans BA0.out.size (by show vx.heap.size ≤ (vx.alloc _).heap.size; simp))))
            have XW2 := Lib.hid ((XA.out.alloc (.cells #[.int .i64 0, .string ⟨#[]⟩, .slice none 0 0, .slice none 0 0] 33)).drew.below b1)
            have HW2 := Lib.hid ((HBA.out.alloc (.cells #[.int .i64 0, .string ⟨#[]⟩, .slice none 0 0, .slice none 0 0] 33)).drew.below b1)
            have BZ := Lib.hid ((Mem.Blk.new vx 33 #[.int .i64 0, .string ⟨#[]⟩, .slice none 0 0, .slice none 0 0]).drew.below b1)
            have HREP := Lib.hid hrep
            refine hK _ _ ⟨HW2.out.cell 3, XW2.out.cell 0, XW2.out.cell 1, XW2.out.cell 2, XW2.out.cell 3⟩ ?_
            clear hK K' hrep b1
            generalize vx.heap.size = z at *
            obtain ⟨o5, e5, x5, t5, p5, l5, r5, p6, l6, r6, _, rfl, _⟩ := HREP.out.inv
            refine till_last (by kernel_rfl) rfl (by kernel_rfl) (fun K' hK => ?_)
            refine step_ap infoT Try.underlying28 rfl (by decide) rfl (.tmp 23) (.tmp 27) rfl rfl (own_below HR.out.own HB2.out) (Nat.le_trans HRM.out HB2.out.size) ⟨z, 0, none⟩ 1 1 [.int .i64 0, .string ⟨#[]⟩, .slice none 0 0, .slice none 0 0] rfl rfl (fun j u hj => by rw [Mem.add0, BZ.out.cell]; simpa using hj) (by simp [Value.oneCell']) (by have := hkm.out; unfold maxLen; omega) (by have := hkm.out; omega) ?_
            intro v' w2 o' g' hv'
            refine hK _ _ ?_
            clear hK K'
            have O2 := Lib.hid o'
            have G2 := Lib.hid g'
            have V2 := Lib.hid hv'
            obtain ⟨g, capn, rfl, hg0, hg1, hg2, hob⟩ := own_form o' (by omega)
            obtain ⟨u0, u1, u2, u3, y0, y1, y2, y3⟩ := own_tail4 o' hfl.out
            have hox : ∀ b, (Value.slice av k cv).ownBlock = some b → b < wr.heap.size ∧ base ≤ b := fun b hb => ⟨(own_lt HR.out.own hb).2, (own_lt HR.out.own hb).1⟩
            have H2 := Lib.hid ((g'.block _ HW2.out.lt (fun e => by have := (hox _ e.symm).2; have := HHI.out; omega)).trans HW2.out)
            have hgh : h0 ≠ g := by have := HHI.out; omega
            have hhg : g ≠ h0 := fun e => hgh e.symm
            have FIN := Lib.hid (HR.out.step HB2.out HLE.out HREP.out O2.out G2.out V2.out rfl)
            clear o' g' hv' hob hox HR HB2 HREP O2 G2 V2 XW2 HW2 KA KB XA BA0 HBA BZ s0 s1 s2 s3 s4
            have i0 : (0 : Int) ≤ (k : Int) := by omega
            have i1 : (k : Int) < (k : Int) + 1 := by omega
            have m4 : w2.cell? ⟨h0, 3, none⟩ = some (.slice av k cv) := Mem.Blk.cell H2.out 3
            have m5 : w2.frozen? ⟨h0, 3, none⟩ = false := Mem.Blk.frozen H2.out 3
            refine any_take (i := 7) (v := ?_) rfl (by kernel_rfl) (fun _ _ _ h => h) (Or.inl ⟨by rfl, ?_⟩) ?_
            rotate_left
            · intro W
              go_simp
              with_reducible rfl
            simp only [Act.put, List.setIfInBounds_toArray, List.set_cons_zero, List.set_cons_succ]
            refine any_take (i := 9) (v := ?_) rfl (by kernel_rfl) (fun _ _ _ h => h) (Or.inl ⟨by rfl, ?_⟩) ?_
            rotate_left
            · intro W
              go_simp
              with_reducible rfl
            simp only [Act.put, List.setIfInBounds_toArray, List.set_cons_zero, List.set_cons_succ]
            refine any_two (i := 8) (j := 10) (by kernel_rfl) rfl rfl (fun K' hK => ?_) (fun K' hK => ?_)
            · go_simp
              refine hK _ _ ?_
              clear hK K'
              refine any_one (i := 10) (by kernel_rfl) rfl (fun K' hK => ?_)
              go_simp
              refine hK _ _ ?_
              clear hK K'
              refine wpAny_done (by kernel_rfl) ?_ _
              clear u0 u1 u2 u3 y0 y1 y2 y3 m4 m5 H2
              go_wp2
              go_roundw
              case rel => exact ⟨k + 1, _, _, by go_num, by omega, FIN.out⟩
              case measure => simp [intOf]; omega
            · go_simp
              refine hK _ _ ?_
              clear hK K'
              refine any_one (i := 8) (by kernel_rfl) rfl (fun K' hK => ?_)
              go_simp
              refine hK _ _ ?_
              clear hK K'
              refine wpAny_done (by kernel_rfl) ?_ _
              clear u0 u1 u2 u3 y0 y1 y2 y3 m4 m5 H2
              rw [set4_comm hhg] at FIN
              go_wp2
              go_roundw
              case rel => exact ⟨k + 1, _, _, by go_num, by omega, FIN.out⟩
              case measure => simp [intOf]; omega
        · obtain rfl : k = len2 := by omega
          clear HI hlt hk
          have hrk : Hid (k = te.length) := HL2.out.symm
          have d0 : wr.cell? ⟨w.heap.size, 0, none⟩ = some (.int .i64 op) := HR.out.b0.cell 0
          have d2 : wr.cell? ⟨w.heap.size, 2, none⟩ = some (.slice a len cap) := HR.out.b0.cell 2
          obtain ⟨z0, z1, z2, z3, y0, y1, y2, y3⟩ := blk4 HR.out.b1
          obtain ⟨x0, x1, x2, x3, -, -, -, -⟩ := blk4 HR.out.b2
          have FB := Lib.hid HR.out.below
          have HB1 := Lib.hid HR.out.b1
          have HH0 := Lib.hid HR.out.b2.lt
          have Q5 := Lib.hid q5
          have hkm : Hid (k ≤ 1000000) := by
            show _ ≤ _
            have h2 := q2
            have : arT op ≤ 2 := by unfold arT; repeat' split <;> omega
            have := hrk.out; omega
          have Q2 := Lib.hid q2
          have Q1 := Lib.hid q1
          have HOUT : Hid (RepT wr ((w.heap.size + 1) :: X) (.mk op nm ex (te.map sT)) [.int .i64 op, .string nm, .slice a3 len cap3, .slice av k cv]) := by
            have h := HR.out
            rw [hrk.out] at h ⊢
            obtain ⟨av', cv', e, hR⟩ := h.out I1.out I3.out HXX.out
            injection e with e1 e2 e3
            subst e1; subst e3
            exact hR
          have HEL := Lib.hid (fun j hj => HR.out.elem j hj (Nat.le_of_eq HL2.out.symm))
          have hsT : Hid (sT (.mk op nm ex te) = ruleT op nm ex (te.map sT)) := by show _ = _; rw [sT, sT_go]
          clear HA HB BY c0 c1 c2 HTY HT BX HW0 hne hsz HR hb q1 q2 q3 q4 q5
          by_cases o3 : op = 3
          · subst o3
            have hk0 : 0 < k := by have h := Q2.out; rw [show arT 3 = 1 by decide] at h; have := hrk.out; omega
            obtain ⟨g, capn, t, o, n, x, y, p, l, q, p2, l2, q2', e, hcap, ht, hst, -, -, hglt, F4, hR⟩ := HEL.out 0 hk0
            injection e with e1 e2 e3
            subst e1; subst e3
            obtain ⟨g0, g1, g2, g3⟩ := F4
            rw [Nat.zero_mul] at g0
            rw [Nat.zero_mul, Nat.zero_add] at g1 g2 g3
            have hap : (te.map sT).getD 0 zT = .mk o n x y := by rw [getD_map ht, hst]
            have hbt : bT (.mk o n x y) = true := by rw [← hst]; exact sT_built _ _ (Nat.le_refl _) (Q5.out t (List.mem_of_getElem? ht))
            have ik : (0 : Int) < (k : Int) := by omega
            have HR1 := Lib.hid (hR.less (X' := (w.heap.size + 1) :: X) (fun b _ hm => List.mem_cons_of_mem _ hm))
            rw [hst] at HR1
            by_cases h3 : o = 3
            · subst h3
              obtain ⟨_, b2, _, _, _⟩ := bT_inv hbt
              rw [show arT 3 = 1 by decide] at b2
              obtain ⟨-, -, -, -, -, hsl⟩ := HR1.out.parts
              obtain ⟨f1, f2', _⟩ := hsl.facts
              have hl0 : 0 < l2 := by omega
              have il2 : (0 : Int) < (l2 : Int) := by omega
              obtain ⟨b, o', op1, nm1, ex1, te1, a5, len5, cap5, a6, len6, cap6, rfl, -, -, hy0, j1, j3, hS5, hS6, v0, v1, v2, v3⟩ := hsl.at 0 hl0
              rw [Nat.zero_mul, Nat.add_zero] at v0 v1 v2 v3
              have FIN : Hid (RepT wr ((w.heap.size + 1) :: X) (sT (.mk 3 nm ex te)) [.int .i64 op1, .string nm1, .slice a5 len5 cap5, .slice a6 len6 cap6]) := by
                show RepT _ _ _ _
                rw [hsT.out, rule3a hap, show y.getD 0 zT = .mk op1 nm1 ex1 te1 by rw [List.getD_eq_getElem?_getD, hy0]; rfl]
                exact RepT.mk' j1 j3 hS5 hS6
              clear HEL HOUT hsT HR1 hR hsl hap hst ht hbt hy0 b2 f1 j1 j3 hS5 hS6
              go_wp2_with fail
              obtain ⟨n1, n2, n3⟩ := simp_fin FB.out HB1.out FIN.out
              exact bodyPost_ret (by simp [results, Try.results24, go_sem, z0, z1, z2, z3]) rfl ⟨⟨_, rfl, n1⟩, n2⟩
            · have t3 : (o == 3) = false := beq_eq_false_iff_ne.2 h3
              by_cases h1 : o = 1
              · subst h1
                have FIN : Hid (RepT wr ((w.heap.size + 1) :: X) (sT (.mk 3 nm ex te)) [.int .i64 1, .string n, .slice p l q, .slice p2 l2 q2']) := by
                  show RepT _ _ _ _
                  rw [hsT.out, rule3b hap]
                  exact HR1.out
                clear HEL HOUT hsT HR1 hR hap hst ht hbt
                go_wp2_with fail
                have HE := Lib.hid (empty_any h0 g k cv 0 1 wr x3 (by rw [Nat.zero_mul]; exact g0) hk0 hkm.out)
                rw [show ((0 : Nat) : Int) = 0 from rfl] at HE
                go_at_call 41
                (with_reducible refine HE.out.mono ?_)
                rintro e w' ⟨rfl, rfl⟩
                go_wp2_with fail
                obtain ⟨n1, n2, n3⟩ := simp_fin FB.out HB1.out FIN.out
                exact bodyPost_ret (by simp [results, Try.results24, go_sem, z0, z1, z2, z3]) rfl ⟨⟨_, rfl, n1⟩, n2⟩
              · have h1' : (o == 1) = false := beq_eq_false_iff_ne.2 h1
                have FIN : Hid (RepT wr ((w.heap.size + 1) :: X) (sT (.mk 3 nm ex te)) [.int .i64 3, .string nm, .slice a3 len cap3, .slice (some ⟨g, 0, none⟩) k cv]) := by
                  show RepT _ _ _ _
                  rw [hsT.out, rule3c hap h3 h1]
                  exact HOUT.out
                clear HEL HOUT hsT HR1 hR hap hst ht hbt
                go_wp2_with fail
                have HE := Lib.hid (empty_any h0 g k cv 0 o wr x3 (by rw [Nat.zero_mul]; exact g0) hk0 hkm.out)
                rw [show ((0 : Nat) : Int) = 0 from rfl] at HE
                go_at_call 41
                (with_reducible refine HE.out.mono ?_)
                rintro e w' ⟨rfl, rfl⟩
                go_wp2_with fail
                obtain ⟨n1, n2, n3⟩ := simp_fin FB.out HB1.out FIN.out
                exact bodyPost_ret (by simp [results, Try.results24, go_sem, z0, z1, z2, z3]) rfl ⟨⟨_, rfl, n1⟩, n2⟩
          by_cases o7 : op = 7 ∨ op = 8
          · rcases o7 with rfl | rfl
            · have o7 : (7 : Int) = 7 ∨ (7 : Int) = 8 := .inl rfl
              have hk0 : 0 < k := by have h := Q2.out; rw [show arT 7 = 1 by decide] at h; have := hrk.out; omega
              obtain ⟨g, capn, t, o, n, x, y, p, l, q, p2, l2, q2', e, hcap, ht, hst, -, -, hglt, F4, hR⟩ := HEL.out 0 hk0
              injection e with e1 e2 e3
              subst e1; subst e3
              obtain ⟨g0, g1, g2, g3⟩ := F4
              rw [Nat.zero_mul] at g0
              rw [Nat.zero_mul, Nat.zero_add] at g1 g2 g3
              have hap : (te.map sT).getD 0 zT = .mk o n x y := by rw [getD_map ht, hst]
              have hbt : bT (.mk o n x y) = true := by rw [← hst]; exact sT_built _ _ (Nat.le_refl _) (Q5.out t (List.mem_of_getElem? ht))
              have ik : (0 : Int) < (k : Int) := by omega
              have HR1 := Lib.hid (hR.less (X' := (w.heap.size + 1) :: X) (fun b _ hm => List.mem_cons_of_mem _ hm))
              rw [hst] at HR1
              by_cases h1 : o = 1
              · subst h1
                have FIN : Hid (RepT wr ((w.heap.size + 1) :: X) (sT (.mk 7 nm ex te)) [.int .i64 1, .string n, .slice p l q, .slice p2 l2 q2']) := by
                  show RepT _ _ _ _
                  rw [hsT.out, rule7a o7 hap]
                  exact HR1.out
                clear HEL HOUT hsT HR1 hR hap hst ht hbt o7
                go_wp2_with fail
                have HE := Lib.hid (empty_any h0 g k cv 0 1 wr x3 (by rw [Nat.zero_mul]; exact g0) hk0 hkm.out)
                rw [show ((0 : Nat) : Int) = 0 from rfl] at HE
                go_at_call 41
                (with_reducible refine HE.out.mono ?_)
                rintro e w' ⟨rfl, rfl⟩
                go_wp2_with fail
                obtain ⟨n1, n2, n3⟩ := simp_fin FB.out HB1.out FIN.out
                exact bodyPost_ret (by simp [results, Try.results24, go_sem, z0, z1, z2, z3]) rfl ⟨⟨_, rfl, n1⟩, n2⟩
              · have h1' : (o == 1) = false := beq_eq_false_iff_ne.2 h1
                have FIN : Hid (RepT wr ((w.heap.size + 1) :: X) (sT (.mk 7 nm ex te)) [.int .i64 7, .string nm, .slice a3 len cap3, .slice (some ⟨g, 0, none⟩) k cv]) := by
                  show RepT _ _ _ _
                  rw [hsT.out, rule7b o7 hap h1]
                  exact HOUT.out
                clear HEL HOUT hsT HR1 hR hap hst ht hbt o7
                go_wp2_with fail
                have HE := Lib.hid (empty_any h0 g k cv 0 o wr x3 (by rw [Nat.zero_mul]; exact g0) hk0 hkm.out)
                rw [show ((0 : Nat) : Int) = 0 from rfl] at HE
                go_at_call 41
                (with_reducible refine HE.out.mono ?_)
                rintro e w' ⟨rfl, rfl⟩
                go_wp2_with fail
                obtain ⟨n1, n2, n3⟩ := simp_fin FB.out HB1.out FIN.out
                exact bodyPost_ret (by simp [results, Try.results24, go_sem, z0, z1, z2, z3]) rfl ⟨⟨_, rfl, n1⟩, n2⟩
            · have o7 : (8 : Int) = 7 ∨ (8 : Int) = 8 := .inr rfl
              have hk0 : 0 < k := by have h := Q2.out; rw [show arT 8 = 1 by decide] at h; have := hrk.out; omega
              obtain ⟨g, capn, t, o, n, x, y, p, l, q, p2, l2, q2', e, hcap, ht, hst, -, -, hglt, F4, hR⟩ := HEL.out 0 hk0
              injection e with e1 e2 e3
              subst e1; subst e3
              obtain ⟨g0, g1, g2, g3⟩ := F4
              rw [Nat.zero_mul] at g0
              rw [Nat.zero_mul, Nat.zero_add] at g1 g2 g3
              have hap : (te.map sT).getD 0 zT = .mk o n x y := by rw [getD_map ht, hst]
              have hbt : bT (.mk o n x y) = true := by rw [← hst]; exact sT_built _ _ (Nat.le_refl _) (Q5.out t (List.mem_of_getElem? ht))
              have ik : (0 : Int) < (k : Int) := by omega
              have HR1 := Lib.hid (hR.less (X' := (w.heap.size + 1) :: X) (fun b _ hm => List.mem_cons_of_mem _ hm))
              rw [hst] at HR1
              by_cases h1 : o = 1
              · subst h1
                have FIN : Hid (RepT wr ((w.heap.size + 1) :: X) (sT (.mk 8 nm ex te)) [.int .i64 1, .string n, .slice p l q, .slice p2 l2 q2']) := by
                  show RepT _ _ _ _
                  rw [hsT.out, rule7a o7 hap]
                  exact HR1.out
                clear HEL HOUT hsT HR1 hR hap hst ht hbt o7
                go_wp2_with fail
                have HE := Lib.hid (empty_any h0 g k cv 0 1 wr x3 (by rw [Nat.zero_mul]; exact g0) hk0 hkm.out)
                rw [show ((0 : Nat) : Int) = 0 from rfl] at HE
                go_at_call 41
                (with_reducible refine HE.out.mono ?_)
                rintro e w' ⟨rfl, rfl⟩
                go_wp2_with fail
                obtain ⟨n1, n2, n3⟩ := simp_fin FB.out HB1.out FIN.out
                exact bodyPost_ret (by simp [results, Try.results24, go_sem, z0, z1, z2, z3]) rfl ⟨⟨_, rfl, n1⟩, n2⟩
              · have h1' : (o == 1) = false := beq_eq_false_iff_ne.2 h1
                have FIN : Hid (RepT wr ((w.heap.size + 1) :: X) (sT (.mk 8 nm ex te)) [.int .i64 8, .string nm, .slice a3 len cap3, .slice (some ⟨g, 0, none⟩) k cv]) := by
                  show RepT _ _ _ _
                  rw [hsT.out, rule7b o7 hap h1]
                  exact HOUT.out
                clear HEL HOUT hsT HR1 hR hap hst ht hbt o7
                go_wp2_with fail
                have HE := Lib.hid (empty_any h0 g k cv 0 o wr x3 (by rw [Nat.zero_mul]; exact g0) hk0 hkm.out)
                rw [show ((0 : Nat) : Int) = 0 from rfl] at HE
                go_at_call 41
                (with_reducible refine HE.out.mono ?_)
                rintro e w' ⟨rfl, rfl⟩
                go_wp2_with fail
                obtain ⟨n1, n2, n3⟩ := simp_fin FB.out HB1.out FIN.out
                exact bodyPost_ret (by simp [results, Try.results24, go_sem, z0, z1, z2, z3]) rfl ⟨⟨_, rfl, n1⟩, n2⟩
          by_cases o6 : op = 6
          · subst o6
            have hk0 : 0 < k := by have h := Q2.out; rw [show arT 6 = 1 by decide] at h; have := hrk.out; omega
            obtain ⟨g, capn, t, o, n, x, y, p, l, q, p2, l2, q2', e, hcap, ht, hst, -, -, hglt, F4, hR⟩ := HEL.out 0 hk0
            injection e with e1 e2 e3
            subst e1; subst e3
            obtain ⟨g0, g1, g2, g3⟩ := F4
            rw [Nat.zero_mul] at g0
            rw [Nat.zero_mul, Nat.zero_add] at g1 g2 g3
            have hap : (te.map sT).getD 0 zT = .mk o n x y := by rw [getD_map ht, hst]
            have hbt : bT (.mk o n x y) = true := by rw [← hst]; exact sT_built _ _ (Nat.le_refl _) (Q5.out t (List.mem_of_getElem? ht))
            have ik : (0 : Int) < (k : Int) := by omega
            have HR1 := Lib.hid (hR.less (X' := (w.heap.size + 1) :: X) (fun b _ hm => List.mem_cons_of_mem _ hm))
            rw [hst] at HR1
            have hx0 : 0 < len := by have h := Q1.out; rw [show arX 6 = 1 by decide] at h; have := HL.out; omega
            have ix0 : (0 : Int) < (len : Int) := by omega
            by_cases h1 : o = 1
            · subst h1
              have FIN : Hid (RepT wr ((w.heap.size + 1) :: X) (sT (.mk 6 nm ex te)) [.int .i64 1, .string n, .slice p l q, .slice p2 l2 q2']) := by
                show RepT _ _ _ _
                rw [hsT.out, rule6a hap]
                exact HR1.out
              clear HEL HOUT hsT HR1 hR hap hst ht hbt
              go_wp2_with fail
              have HE := Lib.hid (empty_any h0 g k cv 0 1 wr x3 (by rw [Nat.zero_mul]; exact g0) hk0 hkm.out)
              rw [show ((0 : Nat) : Int) = 0 from rfl] at HE
              go_at_call 41
              (with_reducible refine HE.out.mono ?_)
              rintro e w' ⟨rfl, rfl⟩
              go_wp2_with fail
              obtain ⟨n1, n2, n3⟩ := simp_fin FB.out HB1.out FIN.out
              exact bodyPost_ret (by simp [results, Try.results24, go_sem, z0, z1, z2, z3]) rfl ⟨⟨_, rfl, n1⟩, n2⟩
            · have h1' : (o == 1) = false := beq_eq_false_iff_ne.2 h1
              obtain ⟨bx, ox, opx, nx, nmx, argx, ax, lenx, capx, rfl, hbx, -, hx, jx1, jx2, jx3, hSx, v0, v1, v2, v3⟩ := (HSX.out wr [] FB.out (fun b hb => by cases hb)).at 0 hx0
              rw [Nat.zero_mul, Nat.add_zero] at v0 v1 v2 v3
              have hex : ex.getD 0 zE = .mk opx nx nmx argx := by rw [List.getD_eq_getElem?_getD, hx]; rfl
              have HSE := Lib.hid (sameExpr_any _ (.mk opx nx nmx argx) (Nat.le_refl _) oneE _ [.int .i64 1, .int .i64 1, .string ⟨#[]⟩, .slice none 0 0] wr (RepE.mk' jx1 jx2 jx3 hSx) (RepE.mk' (by unfold I64; omega) (by unfold I64; omega) (by decide) (SlE.nil _ _)))
              rw [← hex] at HSE
              by_cases he : eqv (ex.getD 0 zE) oneE = true
              · have FIN : Hid (RepT wr ((w.heap.size + 1) :: X) (sT (.mk 6 nm ex te)) [.int .i64 o, .string n, .slice p l q, .slice p2 l2 q2']) := by
                  show RepT _ _ _ _
                  rw [hsT.out, rule6b hap h1 he]
                  exact HR1.out
                rw [he] at HSE
                have HGI : Hid (g < wr.heap.size ∧ h0 < wr.heap.size) := ⟨hglt, HH0.out⟩
                clear HEL HOUT hsT HR1 hR hap hst ht hbt hex he hx
                go_wp2_with fail
                have HE := Lib.hid (empty_any h0 g k cv 0 o wr x3 (by rw [Nat.zero_mul]; exact g0) hk0 hkm.out)
                rw [show ((0 : Nat) : Int) = 0 from rfl] at HE
                go_at_call 41
                (with_reducible refine HE.out.mono ?_)
                rintro e w' ⟨rfl, rfl⟩
                go_wp2_with fail
                go_at_call 38
                (with_reducible refine HSE.out.mono ?_)
                rintro e w1 ⟨rfl, hbw⟩
                have FIN2 := Lib.hid (FIN.out.kept (Kept.of_below hbw _))
                have FB2 := Lib.hid (FB.out.trans (hbw.mono FB.out.size))
                have HB2 := Lib.hid (HB1.out.below hbw)
                clear FIN FB HB1
                have FIN := FIN2
                have FB := FB2
                have HB1 := HB2
                obtain ⟨z0', z1', z2', z3', y0', y1', y2', y3'⟩ := blk4 HB1.out
                have x0' : w1.cell? ⟨h0, 0, none⟩ = _ := (hbw.cell (p := ⟨h0, 0, none⟩) HGI.out.2).trans x0
                have x1' : w1.cell? ⟨h0, 1, none⟩ = _ := (hbw.cell (p := ⟨h0, 1, none⟩) HGI.out.2).trans x1
                have x2' : w1.cell? ⟨h0, 2, none⟩ = _ := (hbw.cell (p := ⟨h0, 2, none⟩) HGI.out.2).trans x2
                have x3' : w1.cell? ⟨h0, 3, none⟩ = _ := (hbw.cell (p := ⟨h0, 3, none⟩) HGI.out.2).trans x3
                have g0' : w1.cell? ⟨g, 0, none⟩ = _ := (hbw.cell (p := ⟨g, 0, none⟩) HGI.out.1).trans g0
                have g1' : w1.cell? ⟨g, 1, none⟩ = _ := (hbw.cell (p := ⟨g, 1, none⟩) HGI.out.1).trans g1
                have g2' : w1.cell? ⟨g, 2, none⟩ = _ := (hbw.cell (p := ⟨g, 2, none⟩) HGI.out.1).trans g2
                have g3' : w1.cell? ⟨g, 3, none⟩ = _ := (hbw.cell (p := ⟨g, 3, none⟩) HGI.out.1).trans g3
                clear hbw z0 z1 z2 z3 y0 y1 y2 y3 g0 g1 g2 g3 x0 x1 x2 x3 d0 d2 v0 v1 v2 v3
                have z0 := z0'
                have z1 := z1'
                have z2 := z2'
                have z3 := z3'
                clear z0' z1' z2' z3'
                go_wp2_with fail
                obtain ⟨n1, n2, n3⟩ := simp_fin FB.out HB1.out FIN.out
                exact bodyPost_ret (by simp [results, Try.results24, go_sem, z0, z1, z2, z3]) rfl ⟨⟨_, rfl, n1⟩, n2⟩
              · have he' : eqv (ex.getD 0 zE) oneE = false := by simpa using he
                have FIN : Hid (RepT wr ((w.heap.size + 1) :: X) (sT (.mk 6 nm ex te)) [.int .i64 6, .string nm, .slice a3 len cap3, .slice (some ⟨g, 0, none⟩) k cv]) := by
                  show RepT _ _ _ _
                  rw [hsT.out, rule6c hap h1 he']
                  exact HOUT.out
                rw [he'] at HSE
                have HGI : Hid (g < wr.heap.size ∧ h0 < wr.heap.size) := ⟨hglt, HH0.out⟩
                clear HEL HOUT hsT HR1 hR hap hst ht hbt hex he hx
                go_wp2_with fail
                have HE := Lib.hid (empty_any h0 g k cv 0 o wr x3 (by rw [Nat.zero_mul]; exact g0) hk0 hkm.out)
                rw [show ((0 : Nat) : Int) = 0 from rfl] at HE
                go_at_call 41
                (with_reducible refine HE.out.mono ?_)
                rintro e w' ⟨rfl, rfl⟩
                go_wp2_with fail
                go_at_call 38
                (with_reducible refine HSE.out.mono ?_)
                rintro e w1 ⟨rfl, hbw⟩
                have FIN2 := Lib.hid (FIN.out.kept (Kept.of_below hbw _))
                have FB2 := Lib.hid (FB.out.trans (hbw.mono FB.out.size))
                have HB2 := Lib.hid (HB1.out.below hbw)
                clear FIN FB HB1
                have FIN := FIN2
                have FB := FB2
                have HB1 := HB2
                obtain ⟨z0', z1', z2', z3', y0', y1', y2', y3'⟩ := blk4 HB1.out
                have x0' : w1.cell? ⟨h0, 0, none⟩ = _ := (hbw.cell (p := ⟨h0, 0, none⟩) HGI.out.2).trans x0
                have x1' : w1.cell? ⟨h0, 1, none⟩ = _ := (hbw.cell (p := ⟨h0, 1, none⟩) HGI.out.2).trans x1
                have x2' : w1.cell? ⟨h0, 2, none⟩ = _ := (hbw.cell (p := ⟨h0, 2, none⟩) HGI.out.2).trans x2
                have x3' : w1.cell? ⟨h0, 3, none⟩ = _ := (hbw.cell (p := ⟨h0, 3, none⟩) HGI.out.2).trans x3
                have g0' : w1.cell? ⟨g, 0, none⟩ = _ := (hbw.cell (p := ⟨g, 0, none⟩) HGI.out.1).trans g0
                have g1' : w1.cell? ⟨g, 1, none⟩ = _ := (hbw.cell (p := ⟨g, 1, none⟩) HGI.out.1).trans g1
                have g2' : w1.cell? ⟨g, 2, none⟩ = _ := (hbw.cell (p := ⟨g, 2, none⟩) HGI.out.1).trans g2
                have g3' : w1.cell? ⟨g, 3, none⟩ = _ := (hbw.cell (p := ⟨g, 3, none⟩) HGI.out.1).trans g3
                clear hbw z0 z1 z2 z3 y0 y1 y2 y3 g0 g1 g2 g3 x0 x1 x2 x3 d0 d2 v0 v1 v2 v3
                have z0 := z0'
                have z1 := z1'
                have z2 := z2'
                have z3 := z3'
                clear z0' z1' z2' z3'
                go_wp2_with fail
                obtain ⟨n1, n2, n3⟩ := simp_fin FB.out HB1.out FIN.out
                exact bodyPost_ret (by simp [results, Try.results24, go_sem, z0, z1, z2, z3]) rfl ⟨⟨_, rfl, n1⟩, n2⟩
          by_cases o4 : op = 4
          · subst o4
            have hk0 : 0 < k := by have h := Q2.out; rw [show arT 4 = 2 by decide] at h; have := hrk.out; omega
            obtain ⟨g, capn, t, o, n, x, y, p, l, q, p2, l2, q2', e, hcap, ht, hst, -, -, hglt, F4, hR⟩ := HEL.out 0 hk0
            injection e with e1 e2 e3
            subst e1; subst e3
            obtain ⟨g0, g1, g2, g3⟩ := F4
            rw [Nat.zero_mul] at g0
            rw [Nat.zero_mul, Nat.zero_add] at g1 g2 g3
            have hap : (te.map sT).getD 0 zT = .mk o n x y := by rw [getD_map ht, hst]
            have hbt : bT (.mk o n x y) = true := by rw [← hst]; exact sT_built _ _ (Nat.le_refl _) (Q5.out t (List.mem_of_getElem? ht))
            have ik : (0 : Int) < (k : Int) := by omega
            have HR1 := Lib.hid (hR.less (X' := (w.heap.size + 1) :: X) (fun b _ hm => List.mem_cons_of_mem _ hm))
            rw [hst] at HR1
            have hk1 : 1 < k := by have h := Q2.out; rw [show arT 4 = 2 by decide] at h; have := hrk.out; omega
            have ik1 : (1 : Int) < (k : Int) := by omega
            obtain ⟨g', capn', t', o2, n2, x', y', p', l', q', p2', l2', q3', e, -, ht2, hst2, -, -, -, F5, hR2⟩ := HEL.out 1 hk1
            injection e with e1 e2 e3
            injection e1 with e1
            injection e1 with e1
            subst e1; subst e3
            obtain ⟨r0, r1, r2, r3⟩ := F5
            rw [Nat.one_mul] at r0 r1 r2 r3
            have hap2 : (te.map sT).getD 1 zT = .mk o2 n2 x' y' := by rw [getD_map ht2, hst2]
            have HR2 := Lib.hid (hR2.less (X' := (w.heap.size + 1) :: X) (fun b _ hm => List.mem_cons_of_mem _ hm))
            rw [hst2] at HR2
            by_cases h1 : o = 1
            · subst h1
              have FIN : Hid (RepT wr ((w.heap.size + 1) :: X) (sT (.mk 4 nm ex te)) [.int .i64 o2, .string n2, .slice p' l' q', .slice p2' l2' q3']) := by
                show RepT _ _ _ _
                rw [hsT.out, rule4a hap, hap2]
                exact HR2.out
              clear HEL HOUT hsT HR1 hR hap hst ht hbt hap2 hst2 HR2 hR2 ht2
              go_wp2_with fail
              have HE := Lib.hid (empty_any h0 g k cv 0 1 wr x3 (by rw [Nat.zero_mul]; exact g0) hk0 hkm.out)
              rw [show ((0 : Nat) : Int) = 0 from rfl] at HE
              go_at_call 41
              (with_reducible refine HE.out.mono ?_)
              rintro e w' ⟨rfl, rfl⟩
              go_wp2_with fail
              obtain ⟨n1, n2, n3⟩ := simp_fin FB.out HB1.out FIN.out
              exact bodyPost_ret (by simp [results, Try.results24, go_sem, z0, z1, z2, z3]) rfl ⟨⟨_, rfl, n1⟩, n2⟩
            · have h1' : (o == 1) = false := beq_eq_false_iff_ne.2 h1
              by_cases h2 : o2 = 1
              · subst h2
                have FIN : Hid (RepT wr ((w.heap.size + 1) :: X) (sT (.mk 4 nm ex te)) [.int .i64 o, .string n, .slice p l q, .slice p2 l2 q2']) := by
                  show RepT _ _ _ _
                  rw [hsT.out, rule4b hap h1 hap2]
                  exact HR1.out
                clear HEL HOUT hsT HR1 hR hap hst ht hbt hap2 hst2 HR2 hR2 ht2
                go_wp2_with fail
                have HE := Lib.hid (empty_any h0 g k cv 0 o wr x3 (by rw [Nat.zero_mul]; exact g0) hk0 hkm.out)
                rw [show ((0 : Nat) : Int) = 0 from rfl] at HE
                go_at_call 41
                (with_reducible refine HE.out.mono ?_)
                rintro e w' ⟨rfl, rfl⟩
                go_wp2_with fail
                have HE1 := Lib.hid (empty_any h0 g k cv 1 1 wr x3 (by rw [Nat.one_mul]; exact r0) hk1 hkm.out)
                rw [show ((1 : Nat) : Int) = 1 from rfl] at HE1
                go_at_call 41
                (with_reducible refine HE1.out.mono ?_)
                rintro e w' ⟨rfl, rfl⟩
                go_wp2_with fail
                obtain ⟨n1, n2, n3⟩ := simp_fin FB.out HB1.out FIN.out
                exact bodyPost_ret (by simp [results, Try.results24, go_sem, z0, z1, z2, z3]) rfl ⟨⟨_, rfl, n1⟩, n2⟩
              · have h2' : (o2 == 1) = false := beq_eq_false_iff_ne.2 h2
                have FIN : Hid (RepT wr ((w.heap.size + 1) :: X) (sT (.mk 4 nm ex te)) [.int .i64 4, .string nm, .slice a3 len cap3, .slice (some ⟨g, 0, none⟩) k cv]) := by
                  show RepT _ _ _ _
                  rw [hsT.out, rule4c hap h1 hap2 h2]
                  exact HOUT.out
                clear HEL HOUT hsT HR1 hR hap hst ht hbt hap2 hst2 HR2 hR2 ht2
                go_wp2_with fail
                have HE := Lib.hid (empty_any h0 g k cv 0 o wr x3 (by rw [Nat.zero_mul]; exact g0) hk0 hkm.out)
                rw [show ((0 : Nat) : Int) = 0 from rfl] at HE
                go_at_call 41
                (with_reducible refine HE.out.mono ?_)
                rintro e w' ⟨rfl, rfl⟩
                go_wp2_with fail
                have HE1 := Lib.hid (empty_any h0 g k cv 1 o2 wr x3 (by rw [Nat.one_mul]; exact r0) hk1 hkm.out)
                rw [show ((1 : Nat) : Int) = 1 from rfl] at HE1
                go_at_call 41
                (with_reducible refine HE1.out.mono ?_)
                rintro e w' ⟨rfl, rfl⟩
                go_wp2_with fail
                obtain ⟨n1, n2, n3⟩ := simp_fin FB.out HB1.out FIN.out
                exact bodyPost_ret (by simp [results, Try.results24, go_sem, z0, z1, z2, z3]) rfl ⟨⟨_, rfl, n1⟩, n2⟩
          have t3 : (op == 3) = false := beq_eq_false_iff_ne.2 o3
          have t7 : (op == 7) = false := beq_eq_false_iff_ne.2 (fun e => o7 (.inl e))
          have t8 : (op == 8) = false := beq_eq_false_iff_ne.2 (fun e => o7 (.inr e))
          have t6 : (op == 6) = false := beq_eq_false_iff_ne.2 o6
          have t4 : (op == 4) = false := beq_eq_false_iff_ne.2 o4
          have FIN : Hid (RepT wr ((w.heap.size + 1) :: X) (sT (.mk op nm ex te)) [.int .i64 op, .string nm, .slice a3 len cap3, .slice av k cv]) := by
            show RepT _ _ _ _
            rw [hsT.out, rule0 o3 o7 o6 o4]; exact HOUT.out
          clear HEL HOUT hsT o3 o7 o6 o4 I1 I3
          go_wp2_with fail
          obtain ⟨n1, n2, n3⟩ := simp_fin FB.out HB1.out FIN.out
          exact bodyPost_ret (by simp [results, Try.results24, go_sem, z0, z1, z2, z3]) rfl ⟨⟨_, rfl, n1⟩, n2⟩
end Go.Proofs.Ytjpkljkmignnjaa
