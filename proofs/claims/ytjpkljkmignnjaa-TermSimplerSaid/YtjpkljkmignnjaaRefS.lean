/- What the document's Simple computes: the same as term's own; condition: the term is built as it must be. -/
import Derived.Test.YtjpkljkmignnjaaSimpS
import Derived.Test.YtjpkljkmignnjaaSimpC
import Derived.Test.YtjpkljkmignnjaaSep
import Derived.Test.YtjpkljkmignnjaaBld
import Derived.Test.YtjpkljkmignnjaaBuildA
import Derived.Test.YtjpkljkmignnjaaReg
import Derived.Deep.DeepCutAuto
namespace Go.Proofs.Ytjpkljkmignnjaa
set_option linter.unusedVariables false
set_option linter.unusedSimpArgs false
open Go.RowKit
/-- Blocks that are somebody else's. -/
def ow (Z : List Nat) : Ob where
  own := Z
  P := fun w _ => ∀ b ∈ Z, b < w.heap.size
  st := fun h k _ _ b hb => Nat.lt_of_lt_of_le (h b hb) k.1
  lt := fun h => h
theorem Sep.ow {w : World} {X : List Nat} (h : ∀ b ∈ X, b < w.heap.size) : Sep w [ow X] := by
  intro i o hi
  cases i with
  | zero => simp at hi; subst hi; exact h
  | succ i => simp at hi
theorem bE_inv {op n : Int} {nm : ByteArray} {l : List Ex} (h : bE (.mk op n nm l) = true) : ar op = (l.length : Nat) ∧ okE op n nm = true ∧ ∀ e ∈ l, bE e = true := by
  rw [bE, bE_go] at h
  simp only [Bool.and_eq_true, beq_iff_eq, Bool.not_eq_true', List.any_eq_false, Bool.not_eq_true, Bool.not_eq_false'] at h
  obtain ⟨⟨h1, h2⟩, h3⟩ := h
  exact ⟨h1, h2, fun e he => by have := h3 e he; simpa using this⟩
theorem one_iff {op n : Int} {nm : ByteArray} {l : List Ex} (h : bE (.mk op n nm l) = true) : eqv (.mk op n nm l) oneE = true ↔ op = 1 ∧ n = 1 := by
  rw [eqv_iff]
  constructor
  · intro e; unfold oneE at e; injection e with e1 e2 e3 e4; exact ⟨e1, e2⟩
  · rintro ⟨rfl, rfl⟩
    obtain ⟨h1, h2, -⟩ := bE_inv h
    have hl : l = [] := List.length_eq_zero_iff.1 (by rw [show ar 1 = 0 by decide] at h1; omega)
    have hn : nm = ⟨#[]⟩ := by
      unfold okE at h2
      simp only [Bool.and_eq_true, Bool.or_eq_true, beq_iff_eq] at h2
      have h3 := h2.1.1.1.2.resolve_right (by decide)
      obtain ⟨a⟩ := nm
      have h4 : (⟨a⟩ : ByteArray).toList = [] := by simpa using h3
      have h5 : (⟨a⟩ : ByteArray).toList = a.toList := ByteArray.toList_eq _
      rw [h4] at h5
      have h6 : a = #[] := Array.toList_eq_nil_iff.1 h5.symm
      rw [h6]
    rw [hl, hn]; rfl
/-- Where its loop stands: the terms so far; its own blocks; what it was given. -/
def famS (h : Nat) (X : List Nat) (ys : List Te) (v : Value) (op : Int) (nm : ByteArray) (ex : List Ex) (a : Option Addr) (len cap : Nat) (te : List Te) (a2 : Option Addr) (len2 cap2 : Nat) : List Ob :=
  [gr teK 33 h ys v, bx (h + 2) 33 #[.int .i64 op, .string nm, .slice a len cap, v], bx (h + 1) 33 #[.int .i64 0, .string ⟨#[]⟩, .slice none 0 0, .slice none 0 0],
    bx h 33 #[.int .i64 op, .string nm, .slice a len cap, .slice a2 len2 cap2], sl exK ex a len cap, sl teK te a2 len2 cap2, ow X]
structure S1 (w wr : World) (X : List Nat) (ys : List Te) (v : Value) (op : Int) (nm : ByteArray) (ex : List Ex) (a : Option Addr) (len cap : Nat) (te : List Te) (a2 : Option Addr) (len2 cap2 : Nat) : Prop where
  below : Below w.heap.size w wr
  sep : Sep wr (famS w.heap.size X ys v op nm ex a len cap te a2 len2 cap2)
section
variable {w wr wr' : World} {X : List Nat} {ys : List Te} {v : Value} {op : Int} {nm : ByteArray} {ex : List Ex} {a : Option Addr} {len cap : Nat} {te : List Te} {a2 : Option Addr} {len2 cap2 : Nat}
theorem S1.start (hS : SlR exK w X ex a len cap) (hT : SlR teK w X te a2 len2 cap2) (hX : ∀ b ∈ X, b < w.heap.size) :
    S1 w (((w.alloc (.cells #[.int .i64 op, .string nm, .slice a len cap, .slice a2 len2 cap2] 33)).alloc (.cells #[.int .i64 0, .string ⟨#[]⟩, .slice none 0 0, .slice none 0 0] 33)).alloc (.cells #[.int .i64 op, .string nm, .slice a len cap, .slice none 0 0] 33)) X [] (.slice none 0 0) op nm ex a len cap te a2 len2 cap2 := by
  have hb := (((Below.refl w.heap.size w).alloc (Nat.le_refl _) (.cells #[.int .i64 op, .string nm, .slice a len cap, .slice a2 len2 cap2] 33)).alloc (by simp) (.cells #[.int .i64 0, .string ⟨#[]⟩, .slice none 0 0, .slice none 0 0] 33)).alloc (by simp; omega) (.cells #[.int .i64 op, .string nm, .slice a len cap, .slice none 0 0] 33)
  have h1 := (Sep.ow hX).add (o := sl teK te a2 len2 cap2) rfl (hT.less (fun b _ hm => by simpa [owns, ow] using hm))
  have h2 := h1.add (o := sl exK ex a len cap) rfl (hS.less (fun b _ hm => by simpa [owns, ow, sl] using hm))
  have h3 := ((h2.new 33 #[.int .i64 op, .string nm, .slice a len cap, .slice a2 len2 cap2]).new 33 #[.int .i64 0, .string ⟨#[]⟩, .slice none 0 0, .slice none 0 0]).new 33 #[.int .i64 op, .string nm, .slice a len cap, .slice none 0 0]
  rw [show (w.alloc (.cells #[.int .i64 op, .string nm, .slice a len cap, .slice a2 len2 cap2] 33)).heap.size = w.heap.size + 1 by simp, show ((w.alloc (.cells #[.int .i64 op, .string nm, .slice a len cap, .slice a2 len2 cap2] 33)).alloc (.cells #[.int .i64 0, .string ⟨#[]⟩, .slice none 0 0, .slice none 0 0] 33)).heap.size = w.heap.size + 2 by simp] at h3
  exact ⟨hb, h3.addGr teK 33 hb.size⟩
theorem S1.up (h : S1 w wr X ys v op nm ex a len cap te a2 len2 cap2) (hb : Below wr.heap.size wr wr') : S1 w wr' X ys v op nm ex a len cap te a2 len2 cap2 := ⟨h.below.trans (hb.mono h.below.size), h.sep.below hb⟩
theorem S1.push {w1 : World} {csl : List (List Value)} {v' : Value} {x : Te} {c : List Value} (h : S1 w wr X ys v op nm ex a len cap te a2 len2 cap2)
    (hG : Grow teK 33 w.heap.size wr (others (famS w.heap.size X ys v op nm ex a len cap te a2 len2 cap2) 0) ys v csl)
    (hR : RepT wr (owns (famS w.heap.size X ys v op nm ex a len cap te a2 len2 cap2)) x c)
    (ho : w1.ownsRow w.heap.size 33 4 v' (ys.length + 1) (csl.flatten ++ c)) (hg : wr.grownBy w1 v.ownBlock) (hv : v'.ownBlock = v.ownBlock ∨ v'.ownBlock = some wr.heap.size) :
    (w1.cell? ⟨w.heap.size + 2, 3, none⟩ = some v ∧ w1.frozen? ⟨w.heap.size + 2, 3, none⟩ = false) ∧ S1 w (w1.setCell ⟨w.heap.size + 2, 3, none⟩ v') X (ys ++ [x]) v' op nm ex a len cap te a2 len2 cap2 := by
  have h1 := h.sep.push 0 rfl hG (x := x) (c := c) hR ho hg hv
  have h2 := h1.store 1 rfl 3 v'
  exact ⟨⟨(h1.blk 1 rfl).cell 3, (h1.blk 1 rfl).frozen 3⟩, (h.below.grown hg h.below.size (fun b hb => (hG.blt hb).1)).setCell (by show w.heap.size ≤ w.heap.size + 2; omega) _, h2⟩
theorem S1.mem (i : Nat) (hi : i ≠ 2) (hi' : i ≠ 6) : ∀ b ∈ (w.heap.size + 1) :: X, b ∈ others (famS w.heap.size X ys v op nm ex a len cap te a2 len2 cap2) i := by
  intro b hb
  rcases List.mem_cons.1 hb with rfl | hb
  · exact mem_others.2 ⟨2, _, fun e => hi e.symm, rfl, by simp [bx]⟩
  · exact mem_others.2 ⟨6, _, fun e => hi' e.symm, rfl, by simpa [ow] using hb⟩
/-- The whole, and each of its terms. -/
theorem S1.out (h : S1 w wr X (te.map sT) v op nm ex a len cap te a2 len2 cap2) (ho : I64 op) (hs : nm.size ≤ 9223372036854775807) :
    ∃ av cv, v = .slice av len2 cv ∧ RepT wr ((w.heap.size + 1) :: X) (.mk op nm ex (te.map sT)) [.int .i64 op, .string nm, .slice a len cap, .slice av len2 cv] ∧
      SlR teK wr ((w.heap.size + 1) :: X) (te.map sT) av len2 cv ∧ SlR exK wr ((w.heap.size + 1) :: X) ex a len cap := by
  obtain ⟨av, cv, hv, hS⟩ := h.sep.still 0 rfl
  have hl : (te.map sT).length = len2 := by rw [List.length_map]; exact (h.sep.at 5 rfl : SlR teK _ _ _ _ _ _).facts.1
  rw [hl] at hv hS
  have hS' := hS.less (fun b _ hm => S1.mem 0 (by omega) (by omega) b hm)
  have hE' := (show SlR exK _ _ _ _ _ _ from h.sep.at 4 rfl).less (X' := (w.heap.size + 1) :: X) (fun b _ hm => S1.mem 4 (by omega) (by omega) b hm)
  exact ⟨av, cv, hv, RepT.mk' ho hs hE'.slE hS'.slT, hS', hE'⟩
end
set_option maxRecDepth 100000 in
set_option maxHeartbeats 4000000 in
theorem refSimple_any : ∀ (r : Nat) (e : Te), e.rk ≤ r → bT e = true → ∀ (X : List Nat) (cs : List Value) (w : World), RepT w X e cs → (∀ b ∈ X, b < w.heap.size) →
    Calls Try.prog 11 #[.agg cs.toArray] w fun x w' => (∃ cs', x = .returned (.agg cs'.toArray) ∧ RepT w' X (sT e) cs') ∧ Below w.heap.size w w' := by
  intro r
  induction r with
  | zero => intro e h; have := e.rk_pos; omega
  | succ r ih =>
    intro e hr hb X cs w hR hX
    obtain ⟨op, nm, ex, te, a, len, cap, a2, len2, cap2, rfl, rfl, i1, i3, hS, hT⟩ := hR.inv
    obtain ⟨q1, q2, q3, q4, q5⟩ := bT_inv hb
    obtain ⟨f1, f2, f3⟩ := hS.facts
    obtain ⟨f4, f5, f6⟩ := hT.facts
    have HI : Hid (∀ (k : Nat) e1, te[k]? = some e1 → ∀ Y cs1 W, RepT W Y e1 cs1 → (∀ b ∈ Y, b < W.heap.size) → Calls Try.prog 11 #[.agg cs1.toArray] W fun x w' => (∃ cs', x = .returned (.agg cs'.toArray) ∧ RepT w' Y (sT e1) cs') ∧ Below W.heap.size W w') := by
      intro k e1 hk Y cs1 W hR1 hY
      exact ih e1 (by have := Te.rk_lt (op := op) (nm := nm) (x := ex) hk; omega) (q5 e1 (List.mem_of_getElem? hk)) Y cs1 W hR1 hY
    have HR0 := Lib.hid (S1.start (op := op) (nm := nm) hS.slR hT.slR hX)
    have I1 := Lib.hid i1
    have I3 := Lib.hid i3
    have HL := Lib.hid f1
    have HL2 := Lib.hid f4
    have Q1 := Lib.hid q1
    have Q2 := Lib.hid q2
    have Q4 := Lib.hid q4
    have Q5 := Lib.hid q5
    have hl2 : Hid (len2 ≤ 2) := by
      show _ ≤ _
      have : arT op ≤ 2 := by unfold arT; repeat' split <;> omega
      omega
    clear ih hr hR hS hT i1 i3 f1 f4 q1 q2 q3 q4 q5 hb hX
    go_enter Try.func11, Try.ntmps11
    go_wp2_with fail
    generalize ((w.alloc (.cells #[.int .i64 op, .string nm, .slice a len cap, .slice a2 len2 cap2] 33)).alloc (.cells #[.int .i64 0, .string ⟨#[]⟩, .slice none 0 0, .slice none 0 0] 33)).alloc (.cells #[.int .i64 op, .string nm, .slice a len cap, .slice none 0 0] 33) = w0 at *
    go_loopw [4] (fun i wr => ∃ (k : Nat) (v : Value), i = .int .i64 (k : Nat) ∧ k ≤ len2 ∧ Hid (S1 w wr X ((te.take k).map sT) v op nm ex a len cap te a2 len2 cap2)) (fun i _ => len2 - (intOf i).toNat)
    case atStart => exact ⟨0, _, rfl, Nat.zero_le _, HR0.out⟩
    case round =>
      clear HR0
      obtain ⟨k, v, rfl, hk, HR⟩ := hrel
      have d3 : wr.cell? ⟨w.heap.size, 3, none⟩ = some (.slice a2 len2 cap2) := (HR.out.sep.blk 3 rfl).cell 3
      by_cases hlt : k < len2
      · have hlk : ((te.take k).map sT).length = k := by rw [List.length_map, List.length_take]; have := HL2.out; omega
        obtain ⟨ys, hys⟩ : ∃ ys, (te.take k).map sT = ys := ⟨_, rfl⟩
        rw [hys] at HR hlk
        have HYS := Lib.hid hys
        clear hys
        obtain ⟨b, o', t, cs, rfl, -, -, hxe, hRt, -, hce⟩ := (show SlR teK _ _ _ _ _ _ from HR.out.sep.all 5 rfl rfl).at k hlt
        obtain ⟨ot, smt, xst, yst, ax, lx, cx, ay, ly, cy, hte, rfl, -, -, -, -⟩ := RepT.inv hRt
        have s0 : wr.cell? ⟨w.heap.size + 2, 3, none⟩ = some v := (HR.out.sep.blk 1 rfl).cell 3
        have s1 : wr.cell? ⟨b, o' + k * 4, none⟩ = some (.int .i64 ot) := hce 0 _ rfl
        have s2 : wr.cell? ⟨b, o' + k * 4 + 1, none⟩ = some (.string smt) := hce 1 _ rfl
        have s3 : wr.cell? ⟨b, o' + k * 4 + 2, none⟩ = some (.slice ax lx cx) := hce 2 _ rfl
        have s4 : wr.cell? ⟨b, o' + k * 4 + 3, none⟩ = some (.slice ay ly cy) := hce 3 _ rfl
        have l0 : (0 : Int) ≤ (k : Int) := by omega
        have l1 : (k : Int) < (len2 : Int) := by omega
        have HC := Lib.hid (HI.out k t hxe _ _ wr.drew (RepT.kept hRt (Kept.of_below (Below.refl wr.heap.size wr).drew _)) HR.out.sep.drew.lt)
        have HXE := Lib.hid hxe
        have HLK := Lib.hid hlk
        clear hce hRt hte hxe hlk
        go_wp2_with fail
        refine wp_region_till (S := fun W => W.cell? ⟨w.heap.size + 2, 3, none⟩ = some v ∧ W.cell? ⟨w.heap.size, 3, none⟩ = some (.slice (some ⟨b, o', none⟩) len2 cap2) ∧ W.cell? ⟨b, o' + k * 4, none⟩ = some (.int .i64 ot) ∧ W.cell? ⟨b, o' + k * 4 + 1, none⟩ = some (.string smt) ∧ W.cell? ⟨b, o' + k * 4 + 2, none⟩ = some (.slice ax lx cx) ∧ W.cell? ⟨b, o' + k * 4 + 3, none⟩ = some (.slice ay ly cy)) 9 (by kernel_rfl) ?_
        refine till_take (i := 0) (v := ?_) rfl (by kernel_rfl) (fun _ _ _ h => h) (Or.inl ⟨by rfl, ?_⟩) ⟨s0,d3,s1,s2,s3,s4⟩ ?_
        rotate_left
        · intro W hS
          try dsimp only at hS
          go_split_ands
          go_simp
          try with_reducible rfl
        try simp only [Act.put, List.getElem_toArray, List.getElem_cons_zero, List.getElem_cons_succ, List.setIfInBounds_toArray, List.set_cons_zero, List.set_cons_succ]
        refine till_take (i := 1) (v := ?_) rfl (by kernel_rfl) (fun _ _ _ h => h) (Or.inl ⟨by rfl, ?_⟩) ⟨s0,d3,s1,s2,s3,s4⟩ ?_
        rotate_left
        · intro W hS
          try dsimp only at hS
          go_split_ands
          go_simp
          try with_reducible rfl
        try simp only [Act.put, List.getElem_toArray, List.getElem_cons_zero, List.getElem_cons_succ, List.setIfInBounds_toArray, List.set_cons_zero, List.set_cons_succ]
        refine till_take (i := 2) (v := ?_) rfl (by kernel_rfl) (fun _ _ _ h => h) (Or.inl ⟨by rfl, ?_⟩) ⟨s0,d3,s1,s2,s3,s4⟩ ?_
        rotate_left
        · intro W hS
          try dsimp only at hS
          go_split_ands
          go_simp
          try with_reducible rfl
        try simp only [Act.put, List.getElem_toArray, List.getElem_cons_zero, List.getElem_cons_succ, List.setIfInBounds_toArray, List.set_cons_zero, List.set_cons_succ]
        refine till_take (i := 3) (v := ?_) rfl (by kernel_rfl) (fun _ _ _ h => h) (Or.inl ⟨by rfl, ?_⟩) ⟨s0,d3,s1,s2,s3,s4⟩ ?_
        rotate_left
        · intro W hS
          try dsimp only at hS
          go_split_ands
          go_simp
          try with_reducible rfl
        try simp only [Act.put, List.getElem_toArray, List.getElem_cons_zero, List.getElem_cons_succ, List.setIfInBounds_toArray, List.set_cons_zero, List.set_cons_succ]
        refine till_take (i := 4) (v := ?_) rfl (by kernel_rfl) (fun _ _ _ h => h) (Or.inl ⟨by rfl, ?_⟩) ⟨s0,d3,s1,s2,s3,s4⟩ ?_
        rotate_left
        · intro W hS
          try dsimp only at hS
          go_split_ands
          go_simp
          try with_reducible rfl
        try simp only [Act.put, List.getElem_toArray, List.getElem_cons_zero, List.getElem_cons_succ, List.setIfInBounds_toArray, List.set_cons_zero, List.set_cons_succ]
        refine till_take (i := 5) (v := ?_) rfl (by kernel_rfl) (fun _ _ _ h => h) (Or.inl ⟨by rfl, ?_⟩) ⟨s0,d3,s1,s2,s3,s4⟩ ?_
        rotate_left
        · intro W hS
          try dsimp only at hS
          go_split_ands
          go_simp
          try with_reducible rfl
        try simp only [Act.put, List.getElem_toArray, List.getElem_cons_zero, List.getElem_cons_succ, List.setIfInBounds_toArray, List.set_cons_zero, List.set_cons_succ]
        refine till_take (i := 6) (v := ?_) rfl (by kernel_rfl) (fun _ _ _ h => h) (Or.inl ⟨by rfl, ?_⟩) ⟨s0,d3,s1,s2,s3,s4⟩ ?_
        rotate_left
        · intro W hS
          try dsimp only at hS
          go_split_ands
          go_simp
          try with_reducible rfl
        try simp only [Act.put, List.getElem_toArray, List.getElem_cons_zero, List.getElem_cons_succ, List.setIfInBounds_toArray, List.set_cons_zero, List.set_cons_succ]
        refine till_one (i := 7) (by kernel_rfl) rfl (fun K' hK => ?_)
        go_simp
        go_at_call 11
        (with_reducible refine HC.out.mono ?_)
        rintro y w1 ⟨⟨cs', rfl, hrep⟩, b1⟩
        have HB1 := Lib.hid ((HR.out.up (Below.refl wr.heap.size wr).drew).up b1)
        have HRP := Lib.hid hrep
        obtain ⟨o5, e5, x5, t5, p5, l5, r5, p6, l6, r6, _, rfl, _⟩ := hrep.inv
        have s0' := cell_up (w := wr.drew) s0 b1
        have d3' := cell_up (w := wr.drew) d3 b1
        have s1' := cell_up (w := wr.drew) s1 b1
        have s2' := cell_up (w := wr.drew) s2 b1
        have s3' := cell_up (w := wr.drew) s3 b1
        have s4' := cell_up (w := wr.drew) s4 b1
        refine hK _ _ ⟨s0', d3', s1', s2', s3', s4'⟩ ?_
        clear hK K' b1 hrep HC HR s0 d3 s1 s2 s3 s4
        try simp only [Act.put, List.getElem_toArray, List.getElem_cons_zero, List.getElem_cons_succ, List.setIfInBounds_toArray, List.set_cons_zero, List.set_cons_succ]
        refine till_one (i := 8) (by kernel_rfl) rfl (fun K' hK => ?_)
        go_simp
        have hbn := (Below.refl w1.heap.size w1).alloc (Nat.le_refl _) (.cells #[.int .i64 o5, .string e5, .slice p5 l5 r5, .slice p6 l6 r6] 33)
        have HB2 := Lib.hid (HB1.out.up hbn)
        have BZ := Lib.hid (Mem.Blk.new w1 33 #[.int .i64 o5, .string e5, .slice p5 l5 r5, .slice p6 l6 r6])
        have HRP2 := Lib.hid (RepT.kept HRP.out (Kept.of_below hbn _))
        refine hK _ _ ⟨cell_up s0' hbn, cell_up d3' hbn, cell_up s1' hbn, cell_up s2' hbn, cell_up s3' hbn, cell_up s4' hbn⟩ ?_
        clear hK K' hbn HB1 HRP s0' d3' s1' s2' s3' s4'
        generalize w1.alloc (.cells #[.int .i64 o5, .string e5, .slice p5 l5 r5, .slice p6 l6 r6] 33) = w2 at *
        generalize w1.heap.size = z at *
        try simp only [Act.put, List.getElem_toArray, List.getElem_cons_zero, List.getElem_cons_succ, List.setIfInBounds_toArray, List.set_cons_zero, List.set_cons_succ]
        refine till_last (by kernel_rfl) rfl (by kernel_rfl) (fun K' hK => ?_)
        obtain ⟨csl, hG⟩ := HB2.out.sep.at 0 rfl
        refine step_ap infoT Try.underlying28 rfl (by decide) rfl (.tmp 21) (.tmp 28) rfl rfl hG.own hG.room ⟨z, 0, none⟩ 1 1 [.int .i64 o5, .string e5, .slice p5 l5 r5, .slice p6 l6 r6] rfl rfl (fun m u hm => by rw [Mem.add0, BZ.out.cell]; simpa using hm) (by simp [Value.oneCell']) (by have := HLK.out; have := hl2.out; unfold maxLen; omega) (by have := HLK.out; have := hl2.out; omega) ?_
        intro v' w3 og gg hv'
        obtain ⟨g2, capn, rfl, -, -, -, -⟩ := own_form og (by omega)
        refine hK _ _ ?_
        clear hK K'
        obtain ⟨⟨m4, m5⟩, HB3⟩ := HB2.out.push hG HRP2.out og gg hv'
        have HB3' := Lib.hid HB3
        clear HB2 HRP2 hG og gg hv' BZ HB3
        have HB3 := HB3'
        clear HB3'
        try simp only [Act.put, List.getElem_toArray, List.getElem_cons_zero, List.getElem_cons_succ, List.setIfInBounds_toArray, List.set_cons_zero, List.set_cons_succ]
        refine any_take (i := 10) (v := ?_) rfl (by kernel_rfl) (fun _ _ _ h => h) (Or.inl ⟨by rfl, ?_⟩) ?_
        rotate_left
        · intro W
          go_simp
          try with_reducible rfl
        try simp only [Act.put, List.getElem_toArray, List.getElem_cons_zero, List.getElem_cons_succ, List.setIfInBounds_toArray, List.set_cons_zero, List.set_cons_succ]
        refine any_one (i := 11) (by kernel_rfl) rfl (fun K' hK => ?_)
        go_simp
        refine hK _ _ ?_
        clear hK K' m4 m5
        refine wpAny_done (by kernel_rfl) ?_ _
        have FIN : Hid (S1 w (w3.setCell ⟨w.heap.size + 2, 3, none⟩ (.slice (some ⟨g2, 0, none⟩) (ys.length + 1) capn)) X ((te.take (k + 1)).map sT) (.slice (some ⟨g2, 0, none⟩) (ys.length + 1) capn) op nm ex a len cap te (some ⟨b, o', none⟩) len2 cap2) := by
          have e : (te.take (k + 1)).map sT = ys ++ [sT t] := by rw [List.take_add_one, HXE.out, List.map_append, HYS.out]; rfl
          show S1 _ _ _ _ _ _ _ _ _ _ _ _ _ _ _
          rw [e]
          exact HB3.out
        clear HB3
        go_wp2_with fail
        go_roundw
        case rel => exact ⟨k + 1, _, by go_num, by omega, FIN.out⟩
        case measure => simp [intOf]; omega
      · obtain rfl : k = len2 := by omega
        have HS1 : Hid (S1 w wr X (te.map sT) v op nm ex a len cap te a2 k cap2) := by
          have h := HR.out
          rw [List.take_of_length_le (by rw [HL2.out]; exact Nat.le_refl _)] at h
          exact h
        obtain ⟨av, cv, rfl, hout, hsl, hse⟩ := HS1.out.out I1.out I3.out
        have d0 : wr.cell? ⟨w.heap.size, 0, none⟩ = some (.int .i64 op) := (HS1.out.sep.blk 3 rfl).cell 0
        have d2 : wr.cell? ⟨w.heap.size, 2, none⟩ = some (.slice a len cap) := (HS1.out.sep.blk 3 rfl).cell 2
        have HB1 : Hid (Mem.Blk wr (w.heap.size + 1) 33 #[.int .i64 0, .string ⟨#[]⟩, .slice none 0 0, .slice none 0 0]) := HS1.out.sep.blk 2 rfl
        obtain ⟨z0, z1, z2, z3, y0, y1, y2, y3⟩ := blk4 HB1.out
        obtain ⟨x0, x1, x2, x3, -, -, -, -⟩ := blk4 (HS1.out.sep.blk 1 rfl : Mem.Blk wr (w.heap.size + 2) _ _)
        have FB := Lib.hid HS1.out.below
        have HOUT := Lib.hid hout
        have HSL := Lib.hid hsl
        have HSE := Lib.hid hse
        have hsT : Hid (sT (.mk op nm ex te) = ruleT op nm ex (te.map sT)) := by show _ = _; rw [sT, sT_go]
        clear HR HS1 hout hsl hse HI
        by_cases o3 : op = 3
        · subst o3
          have hk0 : 0 < k := by have h := Q2.out; rw [show arT 3 = 1 by decide] at h; have := HL2.out; omega
          obtain ⟨g, og, t0, cs0, rfl, -, -, hx0, hR1, -, hc1⟩ := HSL.out.at 0 hk0
          obtain ⟨o, n, x, y, p, l, q, p2, l2, q2', rfl, rfl, -, -, -, hys⟩ := RepT.inv hR1
          have g0 : wr.cell? ⟨g, og, none⟩ = some (.int .i64 o) := hc1 0 _ rfl
          have g1 : wr.cell? ⟨g, og + 1, none⟩ = some (.string n) := hc1 1 _ rfl
          have g2 : wr.cell? ⟨g, og + 2, none⟩ = some (.slice p l q) := hc1 2 _ rfl
          have g3 : wr.cell? ⟨g, og + 3, none⟩ = some (.slice p2 l2 q2') := hc1 3 _ rfl
          have hap : (te.map sT).getD 0 zT = .mk o n x y := by rw [List.getD_eq_getElem?_getD, hx0]; rfl
          have hbt : bT (.mk o n x y) = true := by
            obtain ⟨t, ht, e⟩ := List.mem_map.1 (List.mem_of_getElem? hx0)
            rw [← e]; exact sT_built _ _ (Nat.le_refl _) (Q5.out t ht)
          have ik : (0 : Int) < (k : Int) := by omega
          have HR1 := Lib.hid (show RepT _ _ _ _ from hR1)
          clear hx0 hc1 hR1
          by_cases h3 : o = 3
          · subst h3
            obtain ⟨_, b2, _, _, _⟩ := bT_inv hbt
            rw [show arT 3 = 1 by decide] at b2
            obtain ⟨f1, f2', _⟩ := hys.facts
            have hl0 : 0 < l2 := by omega
            have il2 : (0 : Int) < (l2 : Int) := by omega
            obtain ⟨b, o', op1, nm1, ex1, te1, a5, len5, cap5, a6, len6, cap6, rfl, -, -, hy0, j1, j3, hS5, hS6, v0, v1, v2, v3⟩ := hys.at 0 hl0
            rw [Nat.zero_mul, Nat.add_zero] at v0 v1 v2 v3
            have FIN : Hid (RepT wr ((w.heap.size + 1) :: X) (sT (.mk 3 nm ex te)) [.int .i64 op1, .string nm1, .slice a5 len5 cap5, .slice a6 len6 cap6]) := by
              show RepT _ _ _ _
              rw [hsT.out, rule3a hap, show y.getD 0 zT = .mk op1 nm1 ex1 te1 by rw [List.getD_eq_getElem?_getD, hy0]; rfl]
              exact RepT.mk' j1 j3 hS5 hS6
            clear HSL HSE HOUT hsT HR1 hys hap hbt hy0 b2 f1 j1 j3 hS5 hS6
            go_wp2_with fail
            obtain ⟨n1, n2, n3⟩ := simp_fin FB.out HB1.out FIN.out
            exact bodyPost_ret (by simp [results, Try.results11, go_sem, z0, z1, z2, z3]) rfl ⟨⟨_, rfl, n1⟩, n2⟩
          · have t3 : (o == 3) = false := beq_eq_false_iff_ne.2 h3
            by_cases h1 : o = 1
            · subst h1
              have FIN : Hid (RepT wr ((w.heap.size + 1) :: X) (sT (.mk 3 nm ex te)) [.int .i64 1, .string n, .slice p l q, .slice p2 l2 q2']) := by
                show RepT _ _ _ _
                rw [hsT.out, rule3b hap]
                exact HR1.out
              clear HSL HSE HOUT hsT HR1 hys hap hbt
              go_wp2_with fail
              obtain ⟨n1, n2, n3⟩ := simp_fin FB.out HB1.out FIN.out
              exact bodyPost_ret (by simp [results, Try.results11, go_sem, z0, z1, z2, z3]) rfl ⟨⟨_, rfl, n1⟩, n2⟩
            · have h1' : (o == 1) = false := beq_eq_false_iff_ne.2 h1
              have FIN : Hid (RepT wr ((w.heap.size + 1) :: X) (sT (.mk 3 nm ex te)) [.int .i64 3, .string nm, .slice a len cap, .slice (some ⟨g, og, none⟩) k cv]) := by
                show RepT _ _ _ _
                rw [hsT.out, rule3c hap h3 h1]
                exact HOUT.out
              clear HSL HSE HOUT hsT HR1 hys hap hbt
              go_wp2_with fail
              obtain ⟨n1, n2, n3⟩ := simp_fin FB.out HB1.out FIN.out
              exact bodyPost_ret (by simp [results, Try.results11, go_sem, z0, z1, z2, z3]) rfl ⟨⟨_, rfl, n1⟩, n2⟩
        by_cases o7 : op = 7 ∨ op = 8
        · rcases o7 with rfl | rfl
          · have o7 : (7 : Int) = 7 ∨ (7 : Int) = 8 := .inl rfl
            have hk0 : 0 < k := by have h := Q2.out; rw [show arT 7 = 1 by decide] at h; have := HL2.out; omega
            obtain ⟨g, og, t0, cs0, rfl, -, -, hx0, hR1, -, hc1⟩ := HSL.out.at 0 hk0
            obtain ⟨o, n, x, y, p, l, q, p2, l2, q2', rfl, rfl, -, -, -, hys⟩ := RepT.inv hR1
            have g0 : wr.cell? ⟨g, og, none⟩ = some (.int .i64 o) := hc1 0 _ rfl
            have g1 : wr.cell? ⟨g, og + 1, none⟩ = some (.string n) := hc1 1 _ rfl
            have g2 : wr.cell? ⟨g, og + 2, none⟩ = some (.slice p l q) := hc1 2 _ rfl
            have g3 : wr.cell? ⟨g, og + 3, none⟩ = some (.slice p2 l2 q2') := hc1 3 _ rfl
            have hap : (te.map sT).getD 0 zT = .mk o n x y := by rw [List.getD_eq_getElem?_getD, hx0]; rfl
            have hbt : bT (.mk o n x y) = true := by
              obtain ⟨t, ht, e⟩ := List.mem_map.1 (List.mem_of_getElem? hx0)
              rw [← e]; exact sT_built _ _ (Nat.le_refl _) (Q5.out t ht)
            have ik : (0 : Int) < (k : Int) := by omega
            have HR1 := Lib.hid (show RepT _ _ _ _ from hR1)
            clear hx0 hc1 hR1
            by_cases h1 : o = 1
            · subst h1
              have FIN : Hid (RepT wr ((w.heap.size + 1) :: X) (sT (.mk 7 nm ex te)) [.int .i64 1, .string n, .slice p l q, .slice p2 l2 q2']) := by
                show RepT _ _ _ _
                rw [hsT.out, rule7a o7 hap]
                exact HR1.out
              clear HSL HSE HOUT hsT HR1 hys hap hbt o7
              go_wp2_with fail
              obtain ⟨n1, n2, n3⟩ := simp_fin FB.out HB1.out FIN.out
              exact bodyPost_ret (by simp [results, Try.results11, go_sem, z0, z1, z2, z3]) rfl ⟨⟨_, rfl, n1⟩, n2⟩
            · have h1' : (o == 1) = false := beq_eq_false_iff_ne.2 h1
              have FIN : Hid (RepT wr ((w.heap.size + 1) :: X) (sT (.mk 7 nm ex te)) [.int .i64 7, .string nm, .slice a len cap, .slice (some ⟨g, og, none⟩) k cv]) := by
                show RepT _ _ _ _
                rw [hsT.out, rule7b o7 hap h1]
                exact HOUT.out
              clear HSL HSE HOUT hsT HR1 hys hap hbt o7
              go_wp2_with fail
              obtain ⟨n1, n2, n3⟩ := simp_fin FB.out HB1.out FIN.out
              exact bodyPost_ret (by simp [results, Try.results11, go_sem, z0, z1, z2, z3]) rfl ⟨⟨_, rfl, n1⟩, n2⟩
          · have o7 : (8 : Int) = 7 ∨ (8 : Int) = 8 := .inr rfl
            have hk0 : 0 < k := by have h := Q2.out; rw [show arT 8 = 1 by decide] at h; have := HL2.out; omega
            obtain ⟨g, og, t0, cs0, rfl, -, -, hx0, hR1, -, hc1⟩ := HSL.out.at 0 hk0
            obtain ⟨o, n, x, y, p, l, q, p2, l2, q2', rfl, rfl, -, -, -, hys⟩ := RepT.inv hR1
            have g0 : wr.cell? ⟨g, og, none⟩ = some (.int .i64 o) := hc1 0 _ rfl
            have g1 : wr.cell? ⟨g, og + 1, none⟩ = some (.string n) := hc1 1 _ rfl
            have g2 : wr.cell? ⟨g, og + 2, none⟩ = some (.slice p l q) := hc1 2 _ rfl
            have g3 : wr.cell? ⟨g, og + 3, none⟩ = some (.slice p2 l2 q2') := hc1 3 _ rfl
            have hap : (te.map sT).getD 0 zT = .mk o n x y := by rw [List.getD_eq_getElem?_getD, hx0]; rfl
            have hbt : bT (.mk o n x y) = true := by
              obtain ⟨t, ht, e⟩ := List.mem_map.1 (List.mem_of_getElem? hx0)
              rw [← e]; exact sT_built _ _ (Nat.le_refl _) (Q5.out t ht)
            have ik : (0 : Int) < (k : Int) := by omega
            have HR1 := Lib.hid (show RepT _ _ _ _ from hR1)
            clear hx0 hc1 hR1
            by_cases h1 : o = 1
            · subst h1
              have FIN : Hid (RepT wr ((w.heap.size + 1) :: X) (sT (.mk 8 nm ex te)) [.int .i64 1, .string n, .slice p l q, .slice p2 l2 q2']) := by
                show RepT _ _ _ _
                rw [hsT.out, rule7a o7 hap]
                exact HR1.out
              clear HSL HSE HOUT hsT HR1 hys hap hbt o7
              go_wp2_with fail
              obtain ⟨n1, n2, n3⟩ := simp_fin FB.out HB1.out FIN.out
              exact bodyPost_ret (by simp [results, Try.results11, go_sem, z0, z1, z2, z3]) rfl ⟨⟨_, rfl, n1⟩, n2⟩
            · have h1' : (o == 1) = false := beq_eq_false_iff_ne.2 h1
              have FIN : Hid (RepT wr ((w.heap.size + 1) :: X) (sT (.mk 8 nm ex te)) [.int .i64 8, .string nm, .slice a len cap, .slice (some ⟨g, og, none⟩) k cv]) := by
                show RepT _ _ _ _
                rw [hsT.out, rule7b o7 hap h1]
                exact HOUT.out
              clear HSL HSE HOUT hsT HR1 hys hap hbt o7
              go_wp2_with fail
              obtain ⟨n1, n2, n3⟩ := simp_fin FB.out HB1.out FIN.out
              exact bodyPost_ret (by simp [results, Try.results11, go_sem, z0, z1, z2, z3]) rfl ⟨⟨_, rfl, n1⟩, n2⟩
        by_cases o6 : op = 6
        · subst o6
          have hk0 : 0 < k := by have h := Q2.out; rw [show arT 6 = 1 by decide] at h; have := HL2.out; omega
          obtain ⟨g, og, t0, cs0, rfl, -, -, hx0, hR1, -, hc1⟩ := HSL.out.at 0 hk0
          obtain ⟨o, n, x, y, p, l, q, p2, l2, q2', rfl, rfl, -, -, -, hys⟩ := RepT.inv hR1
          have g0 : wr.cell? ⟨g, og, none⟩ = some (.int .i64 o) := hc1 0 _ rfl
          have g1 : wr.cell? ⟨g, og + 1, none⟩ = some (.string n) := hc1 1 _ rfl
          have g2 : wr.cell? ⟨g, og + 2, none⟩ = some (.slice p l q) := hc1 2 _ rfl
          have g3 : wr.cell? ⟨g, og + 3, none⟩ = some (.slice p2 l2 q2') := hc1 3 _ rfl
          have hap : (te.map sT).getD 0 zT = .mk o n x y := by rw [List.getD_eq_getElem?_getD, hx0]; rfl
          have hbt : bT (.mk o n x y) = true := by
            obtain ⟨t, ht, e⟩ := List.mem_map.1 (List.mem_of_getElem? hx0)
            rw [← e]; exact sT_built _ _ (Nat.le_refl _) (Q5.out t ht)
          have ik : (0 : Int) < (k : Int) := by omega
          have HR1 := Lib.hid (show RepT _ _ _ _ from hR1)
          clear hx0 hc1 hR1
          have hx0 : 0 < len := by have h := Q1.out; rw [show arX 6 = 1 by decide] at h; have := HL.out; omega
          have ix0 : (0 : Int) < (len : Int) := by omega
          by_cases h1 : o = 1
          · subst h1
            have FIN : Hid (RepT wr ((w.heap.size + 1) :: X) (sT (.mk 6 nm ex te)) [.int .i64 1, .string n, .slice p l q, .slice p2 l2 q2']) := by
              show RepT _ _ _ _
              rw [hsT.out, rule6a hap]
              exact HR1.out
            clear HSL HSE HOUT hsT HR1 hys hap hbt
            go_wp2_with fail
            obtain ⟨n1, n2, n3⟩ := simp_fin FB.out HB1.out FIN.out
            exact bodyPost_ret (by simp [results, Try.results11, go_sem, z0, z1, z2, z3]) rfl ⟨⟨_, rfl, n1⟩, n2⟩
          · have h1' : (o == 1) = false := beq_eq_false_iff_ne.2 h1
            obtain ⟨bx', ox, ex0, cx, rfl, -, -, hx, hRx, -, hcx⟩ := HSE.out.at 0 hx0
            obtain ⟨opx, nx, nmx, argx, ax, lenx, capx, rfl, rfl, -, -, -, -⟩ := RepE.inv hRx
            have v0 : wr.cell? ⟨bx', ox, none⟩ = some (.int .i64 opx) := hcx 0 _ rfl
            have v1 : wr.cell? ⟨bx', ox + 1, none⟩ = some (.int .i64 nx) := hcx 1 _ rfl
            have hgx : ex.getD 0 zE = .mk opx nx nmx argx := by rw [List.getD_eq_getElem?_getD, hx]; rfl
            have hone := one_iff (Q4.out _ (List.mem_of_getElem? hx))
            rw [← hgx] at hone
            by_cases hox : opx = 1
            · subst hox
              by_cases hnx : nx = 1
              · subst hnx
                have FIN : Hid (RepT wr ((w.heap.size + 1) :: X) (sT (.mk 6 nm ex te)) [.int .i64 o, .string n, .slice p l q, .slice p2 l2 q2']) := by
                  show RepT _ _ _ _
                  rw [hsT.out, rule6b hap h1 (hone.2 ⟨rfl, rfl⟩)]
                  exact HR1.out
                clear HSL HSE HOUT hsT HR1 hys hap hbt hx hRx hcx hgx hone
                go_wp2_with fail
                obtain ⟨n1, n2, n3⟩ := simp_fin FB.out HB1.out FIN.out
                exact bodyPost_ret (by simp [results, Try.results11, go_sem, z0, z1, z2, z3]) rfl ⟨⟨_, rfl, n1⟩, n2⟩
              · have hnx' : (nx == 1) = false := beq_eq_false_iff_ne.2 hnx
                have FIN : Hid (RepT wr ((w.heap.size + 1) :: X) (sT (.mk 6 nm ex te)) [.int .i64 6, .string nm, .slice (some ⟨bx', ox, none⟩) len cap, .slice (some ⟨g, og, none⟩) k cv]) := by
                  show RepT _ _ _ _
                  rw [hsT.out, rule6c hap h1 (by rw [Bool.eq_false_iff]; exact fun e => hnx (hone.1 e).2)]
                  exact HOUT.out
                clear HSL HSE HOUT hsT HR1 hys hap hbt hx hRx hcx hgx hone
                go_wp2_with fail
                obtain ⟨n1, n2, n3⟩ := simp_fin FB.out HB1.out FIN.out
                exact bodyPost_ret (by simp [results, Try.results11, go_sem, z0, z1, z2, z3]) rfl ⟨⟨_, rfl, n1⟩, n2⟩
            · have hox' : (opx == 1) = false := beq_eq_false_iff_ne.2 hox
              have FIN : Hid (RepT wr ((w.heap.size + 1) :: X) (sT (.mk 6 nm ex te)) [.int .i64 6, .string nm, .slice (some ⟨bx', ox, none⟩) len cap, .slice (some ⟨g, og, none⟩) k cv]) := by
                show RepT _ _ _ _
                rw [hsT.out, rule6c hap h1 (by rw [Bool.eq_false_iff]; exact fun e => hox (hone.1 e).1)]
                exact HOUT.out
              clear HSL HSE HOUT hsT HR1 hys hap hbt hx hRx hcx hgx hone
              go_wp2_with fail
              obtain ⟨n1, n2, n3⟩ := simp_fin FB.out HB1.out FIN.out
              exact bodyPost_ret (by simp [results, Try.results11, go_sem, z0, z1, z2, z3]) rfl ⟨⟨_, rfl, n1⟩, n2⟩
        by_cases o4 : op = 4
        · subst o4
          have HSL2 := HSL
          have hk0 : 0 < k := by have h := Q2.out; rw [show arT 4 = 2 by decide] at h; have := HL2.out; omega
          obtain ⟨g, og, t0, cs0, rfl, -, -, hx0, hR1, -, hc1⟩ := HSL.out.at 0 hk0
          obtain ⟨o, n, x, y, p, l, q, p2, l2, q2', rfl, rfl, -, -, -, hys⟩ := RepT.inv hR1
          have g0 : wr.cell? ⟨g, og, none⟩ = some (.int .i64 o) := hc1 0 _ rfl
          have g1 : wr.cell? ⟨g, og + 1, none⟩ = some (.string n) := hc1 1 _ rfl
          have g2 : wr.cell? ⟨g, og + 2, none⟩ = some (.slice p l q) := hc1 2 _ rfl
          have g3 : wr.cell? ⟨g, og + 3, none⟩ = some (.slice p2 l2 q2') := hc1 3 _ rfl
          have hap : (te.map sT).getD 0 zT = .mk o n x y := by rw [List.getD_eq_getElem?_getD, hx0]; rfl
          have hbt : bT (.mk o n x y) = true := by
            obtain ⟨t, ht, e⟩ := List.mem_map.1 (List.mem_of_getElem? hx0)
            rw [← e]; exact sT_built _ _ (Nat.le_refl _) (Q5.out t ht)
          have ik : (0 : Int) < (k : Int) := by omega
          have HR1 := Lib.hid (show RepT _ _ _ _ from hR1)
          clear hx0 hc1 hR1
          have hk1 : 1 < k := by have h := Q2.out; rw [show arT 4 = 2 by decide] at h; have := HL2.out; omega
          have ik1 : (1 : Int) < (k : Int) := by omega
          obtain ⟨g', og', t1, cs1, e, -, -, hx1, hR2, -, hc2⟩ := HSL2.out.at 1 hk1
          injection e with e
          injection e with e1 e2
          subst e1; subst e2
          obtain ⟨o2, n2, x', y', p', l', q', p2', l2', q3', rfl, rfl, -, -, -, -⟩ := RepT.inv hR2
          have r0 : wr.cell? ⟨g, og + 4, none⟩ = some (.int .i64 o2) := hc2 0 _ rfl
          have r1 : wr.cell? ⟨g, og + 4 + 1, none⟩ = some (.string n2) := hc2 1 _ rfl
          have r2 : wr.cell? ⟨g, og + 4 + 2, none⟩ = some (.slice p' l' q') := hc2 2 _ rfl
          have r3 : wr.cell? ⟨g, og + 4 + 3, none⟩ = some (.slice p2' l2' q3') := hc2 3 _ rfl
          have hap2 : (te.map sT).getD 1 zT = .mk o2 n2 x' y' := by rw [List.getD_eq_getElem?_getD, hx1]; rfl
          have HR2 := Lib.hid (show RepT _ _ _ _ from hR2)
          clear hx1 hc2 hR2 HSL2
          by_cases h1 : o = 1
          · subst h1
            have FIN : Hid (RepT wr ((w.heap.size + 1) :: X) (sT (.mk 4 nm ex te)) [.int .i64 o2, .string n2, .slice p' l' q', .slice p2' l2' q3']) := by
              show RepT _ _ _ _
              rw [hsT.out, rule4a hap, hap2]
              exact HR2.out
            clear HSL HSE HOUT hsT HR1 HR2 hys hap hap2 hbt
            go_wp2_with fail
            obtain ⟨n1, n2, n3⟩ := simp_fin FB.out HB1.out FIN.out
            exact bodyPost_ret (by simp [results, Try.results11, go_sem, z0, z1, z2, z3]) rfl ⟨⟨_, rfl, n1⟩, n2⟩
          · have h1' : (o == 1) = false := beq_eq_false_iff_ne.2 h1
            by_cases h2 : o2 = 1
            · subst h2
              have FIN : Hid (RepT wr ((w.heap.size + 1) :: X) (sT (.mk 4 nm ex te)) [.int .i64 o, .string n, .slice p l q, .slice p2 l2 q2']) := by
                show RepT _ _ _ _
                rw [hsT.out, rule4b hap h1 hap2]
                exact HR1.out
              clear HSL HSE HOUT hsT HR1 HR2 hys hap hap2 hbt
              go_wp2_with fail
              obtain ⟨n1, n2, n3⟩ := simp_fin FB.out HB1.out FIN.out
              exact bodyPost_ret (by simp [results, Try.results11, go_sem, z0, z1, z2, z3]) rfl ⟨⟨_, rfl, n1⟩, n2⟩
            · have h2' : (o2 == 1) = false := beq_eq_false_iff_ne.2 h2
              have FIN : Hid (RepT wr ((w.heap.size + 1) :: X) (sT (.mk 4 nm ex te)) [.int .i64 4, .string nm, .slice a len cap, .slice (some ⟨g, og, none⟩) k cv]) := by
                show RepT _ _ _ _
                rw [hsT.out, rule4c hap h1 hap2 h2]
                exact HOUT.out
              clear HSL HSE HOUT hsT HR1 HR2 hys hap hap2 hbt
              go_wp2_with fail
              obtain ⟨n1, n2, n3⟩ := simp_fin FB.out HB1.out FIN.out
              exact bodyPost_ret (by simp [results, Try.results11, go_sem, z0, z1, z2, z3]) rfl ⟨⟨_, rfl, n1⟩, n2⟩
        have t3 : (op == 3) = false := beq_eq_false_iff_ne.2 o3
        have t6 : (op == 6) = false := beq_eq_false_iff_ne.2 o6
        have t4 : (op == 4) = false := beq_eq_false_iff_ne.2 o4
        have FIN : Hid (RepT wr ((w.heap.size + 1) :: X) (sT (.mk op nm ex te)) [.int .i64 op, .string nm, .slice a len cap, .slice av k cv]) := by
          show RepT _ _ _ _
          rw [hsT.out, rule0 o3 o7 o6 o4]; exact HOUT.out
        have o7' := Lib.hid o7
        clear HSL HSE HOUT hsT I1 I3 o7
        by_cases h6 : 6 ≤ op
        · have h8 : ¬ op ≤ 8 := by have := o7'.out; omega
          go_wp2_with fail
          obtain ⟨n1, n2, n3⟩ := simp_fin FB.out HB1.out FIN.out
          exact bodyPost_ret (by simp [results, Try.results11, go_sem, z0, z1, z2, z3]) rfl ⟨⟨_, rfl, n1⟩, n2⟩
        · go_wp2_with fail
          obtain ⟨n1, n2, n3⟩ := simp_fin FB.out HB1.out FIN.out
          exact bodyPost_ret (by simp [results, Try.results11, go_sem, z0, z1, z2, z3]) rfl ⟨⟨_, rfl, n1⟩, n2⟩
end Go.Proofs.Ytjpkljkmignnjaa
