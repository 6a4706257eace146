/- A part of the proof: Reg, ToM, Keys, ToT, Big, one behind another. -/
import Derived.Test.YtgbiimoednmlgaaMSA
import Derived.Test.YtgbiimoednmlgaaMSB
import Derived.Deep.RegionHeld3
import Derived.Maps.GroupsBeside
import Derived.Shelf.SlIter.Nil
import Derived.Shelf.SortM.Plain
import Derived.Shelf.SortM.SortNone
import Derived.Test.YtgbiimoednmlgaaProg
import Derived.WalkKit
/- A region that draws its order, whose loads are all behind them when operation n (an append) comes up: S, which tells what they read, is asked for till then alone. -/
namespace Go.Proofs.Ytgbiimoednmlgaa
set_option linter.unusedVariables false
set_option linter.unusedSimpArgs false
open Go
variable {P : Program} {ops : Array Oper} {Q : Exit → Act → World → Prop} {md : Region.Mode} {S : World → Prop} {n : Nat} {l : Array Bool}
/-- In whatever order the rest comes up; S holds till n has come up. -/
def Till (P : Program) (md : Region.Mode) (ops : Array Oper) (Q : Exit → Act → World → Prop) (S : World → Prop) (n : Nat) : Nat → Array Bool → Act → World → Prop
  | 0, l, a, w => Region.ready md ops l = [] ∧ Q .normal a w
  | fuel + 1, l, a, w =>
    (Region.ready md ops l = [] → Q .normal a w) ∧
    ∀ i ∈ Region.ready md ops l, wpOp P ops Q i (fun a' w' => ((l.setIfInBounds i true).getD n true = true ∨ S w') ∧ Till P md ops Q S n fuel (l.setIfInBounds i true) a' w') a w
theorem any_of_till : ∀ (fuel : Nat) (l : Array Bool) (a : Act) (w : World), Till P md ops Q S n fuel l a w → wpAny P md ops Q fuel l a w
  | 0, _, _, _, h => h
  | fuel + 1, _, _, _, h => ⟨h.1, fun i hi => wpOp_mono (fun a' w' h' => any_of_till fuel _ a' w' h'.2) (h.2 i hi)⟩
theorem listed_stays {l : Array Bool} {i : Nat} (h : l.getD n true = true) : (l.setIfInBounds i true).getD n true = true := by
  by_cases hi : i = n
  · subst hi
    rcases Nat.lt_or_ge i l.size with h' | h'
    · simp [h']
    · simp [Array.getElem?_eq_none (by simpa using h')]
  · rw [getD_set_ne true hi]; exact h
/-- Behind n nothing is asked any more. -/
theorem till_of_any : ∀ (fuel : Nat) (l : Array Bool) (a : Act) (w : World), l.getD n true = true → wpAny P md ops Q fuel l a w → Till P md ops Q S n fuel l a w
  | 0, _, _, _, _, h => h
  | fuel + 1, _, _, _, hn, h => ⟨h.1, fun i hi => wpOp_mono (fun a' w' h' => ⟨.inl (listed_stays hn), till_of_any fuel _ a' w' (listed_stays hn) h'⟩) (h.2 i hi)⟩
/-- What has come up had all come up that it waits for. -/
def Clo (md : Region.Mode) (ops : Array Oper) (l : Array Bool) : Prop := ∀ j oj, ops[j]? = some oj → l.getD j true = true → ∀ e ∈ oj.after, Region.binds md e = true → l.getD e.on true = true
def cloB (md : Region.Mode) (ops : Array Oper) (l : Array Bool) : Bool := (List.range ops.size).all fun j => !l.getD j true || match ops[j]? with | some oj => oj.after.all (fun e => !Region.binds md e || l.getD e.on true) | none => true
theorem Clo.of (h : cloB md ops l = true) : Clo md ops l := by
  intro j oj hj hl e he hb
  simp only [cloB, List.all_eq_true, List.mem_range] at h
  have h1 := h j (Array.getElem?_eq_some_iff.1 hj).1
  simp only [hj, hl, Bool.not_true, Bool.false_or, Array.all_eq_true_iff_forall_mem] at h1
  have h2 := h1 e he
  simpa [hb] using h2
theorem getD_up {l : Array Bool} {j : Nat} (h : l.getD j false = true) : l.getD j true = true := by
  rcases Nat.lt_or_ge j l.size with h' | h'
  · simp [h'] at h ⊢; exact h
  · simp [Array.getElem?_eq_none h'] at h
theorem Clo.set {l : Array Bool} {i : Nat} (h : Clo md ops l) (hi : i ∈ Region.ready md ops l) : Clo md ops (l.setIfInBounds i true) := by
  obtain ⟨h0, oi, hoi, hall⟩ := mem_ready.1 hi
  intro j oj hj hl e he hb
  by_cases hij : i = j
  · subst hij
    rw [hoi] at hj
    injection hj with hj
    subst hj
    exact listed_stays (getD_up (hall e he hb))
  · rw [getD_set_ne true hij] at hl
    exact listed_stays (h j oj hj hl e he hb)
/-- Does operation n wait for operation i, through others perhaps? -/
def reach (md : Region.Mode) (ops : Array Oper) (i : Nat) : Nat → Nat → Bool
  | 0, _ => false
  | f + 1, n => match ops[n]? with | some o => o.after.any (fun e => Region.binds md e && (e.on == i || reach md ops i f e.on)) | none => false
theorem reach_spec {l : Array Bool} {i : Nat} (hc : Clo md ops l) : ∀ (f n : Nat), reach md ops i f n = true → (∀ o, ops[n]? = some o → ∀ e ∈ o.after, Region.binds md e = true → l.getD e.on true = true) → l.getD i true = true
  | 0, _, h, _ => by cases h
  | f + 1, n, h, hn => by
    unfold reach at h
    cases ho : ops[n]? with
    | none => rw [ho] at h; cases h
    | some o =>
      rw [ho] at h
      obtain ⟨e, he, hb⟩ := Array.any_eq_true'.1 h
      simp only [Bool.and_eq_true, Bool.or_eq_true, beq_iff_eq] at hb
      have hl := hn o ho e he hb.1
      rcases hb.2 with h1 | h1
      · rw [← h1]; exact hl
      · exact reach_spec hc f e.on h1 (fun o' ho' e' he' hb' => hc e.on o' ho' hl e' he' hb')
theorem till_first {i : Nat} {oi : Oper} {v : Value} (hi : ops[i]? = some oi) (hsel : ∀ (j : Nat) (o : Oper) cs b, ops[j]? = some o → o.op ≠ .select cs b)
    (hQ : ∀ c a w, Q (.panic c) (a.put oi.dst v) w → Q (.panic c) a w) (hin : i ≠ n)
    {f : Nat} (hwait : reach md ops i f n = true) :
    ∀ (fuel : Nat) (l : Array Bool) (a : Act) (w : World), Clo md ops l →
      (∀ j oj, ops[j]? = some oj → j ≠ i → l.getD j true = false → (∀ e ∈ oj.after, Region.binds md e = true → e.on ≠ i) → oi.apart ops oj = true) →
      i ∈ Region.ready md ops l → l.getD n true = false → YieldsIf P ops S oi v a → S w →
      Till P md ops Q S n fuel (l.setIfInBounds i true) (a.put oi.dst v) w → Till P md ops Q S n (fuel + 1) l a w := by
  intro fuel
  induction fuel with
  | zero =>
    intro l a w _ _ hr _ hy hS H
    refine ⟨fun h => (by rw [h] at hr; cases hr), fun j hj => ?_⟩
    by_cases hji : j = i
    · subst hji; exact hy.wpOp hi hS ⟨.inr hS, H⟩
    · have h := ready_mono hj hji
      rw [H.1] at h
      cases h
  | succ fuel ih =>
    intro l a w hclo hfree hr hnl hy hS H
    refine ⟨fun h => (by rw [h] at hr; cases hr), fun j hj => ?_⟩
    by_cases hji : j = i
    · subst hji; exact hy.wpOp hi hS ⟨.inr hS, H⟩
    · have h1 := H.2 j (ready_mono hj hji)
      obtain ⟨hjun, oj, hoj, hall⟩ := mem_ready.1 hj
      have hnot : ∀ e ∈ oj.after, Region.binds md e = true → e.on ≠ i := fun e he hb heq => by
        have g1 := hall e he hb
        have g0 := (mem_ready.1 hr).1
        rw [heq] at g1
        rcases Nat.lt_or_ge i l.size with h' | h'
        · simp [h'] at g0 g1; rw [g0] at g1; cases g1
        · simp [Array.getElem?_eq_none h'] at g1
      have hjn : j ≠ n := by
        rintro rfl
        have g1 := reach_spec hclo f j hwait (fun o ho e he hb => by rw [hoj] at ho; injection ho with ho; subst ho; exact getD_up (hall e he hb))
        rw [(mem_ready.1 hr).1] at g1
        cases g1
      have hnl2 : (l.setIfInBounds j true).getD n true = false := by rw [getD_set_ne true hjn]; exact hnl
      have hnl3 : ((l.setIfInBounds i true).setIfInBounds j true).getD n true = false := by rw [getD_set_ne true hjn, getD_set_ne true hin]; exact hnl
      have h2 := wpOp_putIf hoj (hfree j oj hoj hji hjun hnot) (fun cs b => hsel i oi cs b hi) (fun cs b => hsel j oj cs b hoj) hQ hy h1
      have hfree' : ∀ k ok, ops[k]? = some ok → k ≠ i → (l.setIfInBounds j true).getD k true = false →
          (∀ e ∈ ok.after, Region.binds md e = true → e.on ≠ i) → oi.apart ops ok = true := fun k ok hk hki hun hno => by
        refine hfree k ok hk hki ?_ hno
        by_cases hjk : j = k
        · subst hjk; exact hjun
        · rw [getD_set_ne true hjk] at hun; exact hun
      refine wpOp_mono (fun a' w' h3 => ?_) h2
      have hS' : S w' := h3.2.1.resolve_left (by rw [hnl3]; simp)
      refine ⟨.inr hS', ih (l.setIfInBounds j true) a' w' (hclo.set hj) hfree' (ready_mono hr (Ne.symm hji)) hnl2 h3.1 hS' ?_⟩
      rw [Array.setIfInBounds_comm _ _ hji]
      exact h3.2.2
/-- Operation i first: it yields v while S holds; operation n waits for it. -/
def takeB (md : Region.Mode) (ops : Array Oper) (n : Nat) (l : Array Bool) (i : Nat) : Bool :=
  Region.noSelect ops && Region.free md ops l i && (Region.ready md ops l).contains i && !(i == n) && reach md ops i ops.size n && !l.getD n true && cloB md ops l
theorem till_take {i : Nat} {oi : Oper} {v : Value} {fuel : Nat} {l : Array Bool} {a : Act} {w : World} (hi : ops[i]? = some oi) (hb : takeB md ops n l i = true)
    (hQ : ∀ c a w, Q (.panic c) (a.put oi.dst v) w → Q (.panic c) a w) (hy : YieldsIf P ops S oi v a) (hS : S w)
    (h : Till P md ops Q S n fuel (l.setIfInBounds i true) (a.put oi.dst v) w) : Till P md ops Q S n (fuel + 1) l a w := by
  simp only [takeB, Bool.and_eq_true, Bool.not_eq_true'] at hb
  obtain ⟨⟨⟨⟨⟨⟨h1, h2⟩, h3⟩, h4⟩, h5⟩, h6⟩, h7⟩ := hb
  exact till_first hi (Region.noSelect_spec h1) hQ (by simpa using h4) h5 fuel l a w (Clo.of h7) (Region.free_spec hi h2) (by simpa using h3) h6 hy hS h
/-- The same where nothing is asked of memory. -/
def anyB (md : Region.Mode) (ops : Array Oper) (l : Array Bool) (i : Nat) : Bool := Region.noSelect ops && Region.free md ops l i && (Region.ready md ops l).contains i
theorem any_take {i : Nat} {oi : Oper} {v : Value} {fuel : Nat} {l : Array Bool} {a : Act} {w : World} (hi : ops[i]? = some oi) (hb : anyB md ops l i = true)
    (hQ : ∀ c a w, Q (.panic c) (a.put oi.dst v) w → Q (.panic c) a w) (hy : Yields P ops oi v a)
    (h : wpAny P md ops Q fuel (l.setIfInBounds i true) (a.put oi.dst v) w) : wpAny P md ops Q (fuel + 1) l a w := by
  simp only [anyB, Bool.and_eq_true] at hb
  exact wpAny_take hi hb.1.1 hb.1.2 hb.2 hQ hy h
theorem any_two {i j : Nat} {oi oj : Oper} {fuel : Nat} {l : Array Bool} {a : Act} {w : World} (hr : Region.ready md ops l = [i, j]) (hoi : ops[i]? = some oi) (hoj : ops[j]? = some oj)
    (hi : ∀ K' : Act → World → Prop, Shut (∀ a w, wpAny P md ops Q fuel (l.setIfInBounds i true) a w → K' a w) → if Region.wanted oi (yielded ops a.tmps) = true then Oper.wp P oi a w K' Q else K' (a.put oi.dst undef) w)
    (hj : ∀ K' : Act → World → Prop, Shut (∀ a w, wpAny P md ops Q fuel (l.setIfInBounds j true) a w → K' a w) → if Region.wanted oj (yielded ops a.tmps) = true then Oper.wp P oj a w K' Q else K' (a.put oj.dst undef) w) :
    wpAny P md ops Q (fuel + 1) l a w := by
  refine wpAny_all hr (by simp) fun k hk => ?_
  rcases List.mem_cons.1 hk with rfl | hk
  · exact wpOp_step hoi fun K' hK => hi K' hK
  · rcases List.mem_cons.1 hk with rfl | hk
    · exact wpOp_step hoj fun K' hK => hj K' hK
    · cases hk
theorem any_one {i : Nat} {oi : Oper} {fuel : Nat} {l : Array Bool} {a : Act} {w : World} (hr : Region.ready md ops l = [i]) (hoi : ops[i]? = some oi)
    (hi : ∀ K' : Act → World → Prop, Shut (∀ a w, wpAny P md ops Q fuel (l.setIfInBounds i true) a w → K' a w) → if Region.wanted oi (yielded ops a.tmps) = true then Oper.wp P oi a w K' Q else K' (a.put oi.dst undef) w) :
    wpAny P md ops Q (fuel + 1) l a w := by
  refine wpAny_all hr (by simp) fun k hk => ?_
  rcases List.mem_cons.1 hk with rfl | hk
  · exact wpOp_step hoi fun K' hK => hi K' hK
  · cases hk
theorem till_all {rs : List Nat} {fuel : Nat} {l : Array Bool} {a : Act} {w : World} (hr : Region.ready md ops l = rs) (hne : rs ≠ [])
    (h : ∀ i ∈ rs, wpOp P ops Q i (fun a' w' => ((l.setIfInBounds i true).getD n true = true ∨ S w') ∧ Till P md ops Q S n fuel (l.setIfInBounds i true) a' w') a w) : Till P md ops Q S n (fuel + 1) l a w :=
  ⟨fun h0 => absurd (hr ▸ h0) hne, hr ▸ h⟩
theorem wp_region_till {id : Nat} {a : Act} {w : World} (n : Nat) (hm : P.follows .mixedOrders = true)
    (h : Till P .any ops Q S n ops.size (Array.replicate ops.size false) a w.drew) : (Code.region id ops true).wp P Q a w :=
  wp_region_any hm (any_of_till _ _ _ _ h)
/-- Two may come up: each is carried out; behind it S is shown, and the rest goes on. -/
theorem till_two {i j : Nat} {oi oj : Oper} {fuel : Nat} {l : Array Bool} {a : Act} {w : World} (hr : Region.ready md ops l = [i, j]) (hoi : ops[i]? = some oi) (hoj : ops[j]? = some oj)
    (hi : ∀ K' : Act → World → Prop, Shut (∀ a w, S w → Till P md ops Q S n fuel (l.setIfInBounds i true) a w → K' a w) → if Region.wanted oi (yielded ops a.tmps) = true then Oper.wp P oi a w K' Q else K' (a.put oi.dst undef) w)
    (hj : ∀ K' : Act → World → Prop, Shut (∀ a w, S w → Till P md ops Q S n fuel (l.setIfInBounds j true) a w → K' a w) → if Region.wanted oj (yielded ops a.tmps) = true then Oper.wp P oj a w K' Q else K' (a.put oj.dst undef) w) :
    Till P md ops Q S n (fuel + 1) l a w := by
  refine till_all hr (by simp) fun k hk => ?_
  rcases List.mem_cons.1 hk with rfl | hk
  · exact wpOp_step hoi fun K' hK => hi K' fun a w hS hT => hK a w ⟨.inr hS, hT⟩
  · rcases List.mem_cons.1 hk with rfl | hk
    · exact wpOp_step hoj fun K' hK => hj K' fun a w hS hT => hK a w ⟨.inr hS, hT⟩
    · cases hk
theorem till_one {i : Nat} {oi : Oper} {fuel : Nat} {l : Array Bool} {a : Act} {w : World} (hr : Region.ready md ops l = [i]) (hoi : ops[i]? = some oi)
    (hi : ∀ K' : Act → World → Prop, Shut (∀ a w, S w → Till P md ops Q S n fuel (l.setIfInBounds i true) a w → K' a w) → if Region.wanted oi (yielded ops a.tmps) = true then Oper.wp P oi a w K' Q else K' (a.put oi.dst undef) w) :
    Till P md ops Q S n (fuel + 1) l a w := by
  refine till_all hr (by simp) fun k hk => ?_
  rcases List.mem_cons.1 hk with rfl | hk
  · exact wpOp_step hoi fun K' hK => hi K' fun a w hS hT => hK a w ⟨.inr hS, hT⟩
  · cases hk
/-- n itself comes up, alone: behind it nothing is asked of the world. -/
theorem till_last {oi : Oper} {fuel : Nat} {l : Array Bool} {a : Act} {w : World} (hr : Region.ready md ops l = [n]) (hoi : ops[n]? = some oi) (hl : (l.setIfInBounds n true).getD n true = true)
    (hi : ∀ K' : Act → World → Prop, Shut (∀ a w, wpAny P md ops Q fuel (l.setIfInBounds n true) a w → K' a w) → if Region.wanted oi (yielded ops a.tmps) = true then Oper.wp P oi a w K' Q else K' (a.put oi.dst undef) w) :
    Till P md ops Q S n (fuel + 1) l a w := by
  refine till_all hr (by simp) fun k hk => ?_
  rcases List.mem_cons.1 hk with rfl | hk
  · exact wpOp_step hoi fun K' hK => hi K' fun a w hT => hK a w ⟨.inl hl, till_of_any _ _ _ _ hl hT⟩
  · cases hk
end Go.Proofs.Ytgbiimoednmlgaa

/- Flows in memory; a map of slices of numbers: the look-up in every world that has the map. -/
namespace Go.Proofs.Ytgbiimoednmlgaa
set_option linter.unusedVariables false
set_option linter.unusedSimpArgs false
open Go.RowKit Go.ChangeShapes
def flC (f : Flw) : List Value := [.string f.coin, .int .i64 f.amt]
structure FlOk (f : Flw) : Prop where
  coin : f.coin.size ≤ maxLen
  amt : I64 f.amt
def flK : Elt Flw where
  sz := 2
  pos := by decide
  R := fun _ _ a cs => cs = flC a ∧ FlOk a
  kept := fun h _ => h
  less := fun h _ => h
  one := fun h => by obtain ⟨rfl, _⟩ := h; exact ⟨rfl, by simp [flC, Value.oneCell']⟩
theorem fl_at {w : World} {X : List Nat} {l : List Flw} {a : Option Addr} {len cap : Nat} (h : SlR flK w X l a len cap) (k : Nat) (hk : k < len) :
    ∃ b o x, a = some ⟨b, o, none⟩ ∧ l[k]? = some x ∧ FlOk x ∧ w.cell? ⟨b, o + k * 2, none⟩ = some (.string x.coin) ∧ w.cell? ⟨b, o + k * 2 + 1, none⟩ = some (.int .i64 x.amt) := by
  obtain ⟨b, o, f, cs, ha, hb, hX, hf, ⟨rfl, h1⟩, -, hc⟩ := h.at k hk
  exact ⟨b, o, f, ha, hf, h1, hc 0 _ rfl, hc 1 _ rfl⟩
theorem fl_ok {w : World} {X : List Nat} {l : List Flw} {a : Option Addr} {len cap : Nat} (h : SlR flK w X l a len cap) : ∀ x ∈ l, FlOk x := by
  intro x hx
  obtain ⟨i, hi⟩ := List.getElem?_of_mem hx
  have hil := (List.getElem?_eq_some_iff.1 hi).1
  obtain ⟨b, o, y, -, hy, hok, -⟩ := fl_at h i (by have := h.facts.1; omega)
  rw [hi] at hy; rw [Option.some.inj hy]; exact hok
def outF (l : List Flw) : List Value := (l.map flC).flatten
theorem outF_append (a b : List Flw) : outF (a ++ b) = outF a ++ outF b := by unfold outF; rw [List.map_append, List.flatten_append]
theorem outF_one (a : Flw) : outF [a] = flC a := by unfold outF; simp
theorem outF_any {t : TypeId} {w0 w : World} {v : Value} {l : List Flw} (h : w.ownsRow w0.heap.size t 2 v l.length (outF l)) (hb : Below w0.heap.size w0 w) (hok : ∀ a ∈ l, FlOk a) : ∃ a c, v = .slice a l.length c ∧ SlR flK w [] l a l.length c := by
  obtain ⟨a, c, rfl, hsl, -⟩ := own_sl (w0 := w0) (X := []) ⟨hb, h⟩ (by rw [List.length_map]) (fun c hc => by obtain ⟨s, _, rfl⟩ := List.mem_map.1 hc; rfl) (fun b hb => by cases hb)
  refine ⟨a, c, rfl, ⟨l.map flC, by rw [List.length_map], fun i x cs hx hc => ?_, hsl⟩⟩
  rw [List.getElem?_map, hx] at hc
  injection hc with hc
  exact ⟨hc.symm, hok x (List.mem_of_getElem? hx)⟩
theorem infoLF : (Try.prog.info? 64).map (fun i => (i.zero, i.size, i.bytes)) = some (some (.agg #[.string ⟨#[]⟩, .int .i64 0]), 2, 24) := by kernel_rfl
theorem infoRF : (Try.prog.info? 65).map (fun i => (i.zero, i.size, i.bytes)) = some (some (.agg #[.string ⟨#[]⟩, .int .i64 0]), 2, 24) := by kernel_rfl
theorem infoI8 : (Try.prog.info? 2).map (fun i => (i.zero, i.size, i.bytes)) = some (some (.int .i64 0), 1, 8) := by kernel_rfl
theorem zeroI64s (w : World) : (zeroValue 77).run Try.prog w = .ok (.slice none 0 0) w := by kernel_rfl
theorem below_nT (w : World) (o : Obj) : Below w.heap.size w (w.alloc o) := (Below.refl w.heap.size w).alloc (Nat.le_refl _) o
theorem cellT {w w' : World} {a : Addr} {v : Value} (h : w.cell? a = some v) (b : Below w.heap.size w w') : w'.cell? a = some v := by
  rw [World.cell?_of_block (w := w) (b.block a.block (World.block_lt_of_cell? w a h))]; exact h
theorem grownT {w w' : World} {row : Option Nat} (b : Below w.heap.size w w') : w.grownBy w' row := ⟨b.os, b.tape, b.output, b.size, fun i hi _ => b.block i hi⟩
theorem blkRowT {w : World} {g base sz n : Nat} {t e : TypeId} {cs : Array Value} {v : Value} {xs : List Value} (h : Mem.Blk w g t cs) (h' : w.ownsRow base e sz v n xs) (ht : t ≠ e) (hg : v.ownBlock = some g) : False := by
  rcases h'.2 with ⟨rfl, _⟩ | ⟨a, cap, cur, rfl, _, h1, _⟩
  · cases hg
  · simp only [Value.ownBlock, Option.some.injEq] at hg
    rw [hg] at h1
    unfold Mem.Blk at h
    rw [h] at h1
    injection h1 with h1
    injection h1 with _ h1
    exact ht h1
theorem blk_grownT {w w' : World} {g : Nat} {t : TypeId} {cs : Array Value} {row : Option Nat} (h : Mem.Blk w g t cs) (k : w.grownBy w' row) (hne : row ≠ some g) : Mem.Blk w' g t cs := by
  have hb := k.block g h.lt (fun e => hne e.symm)
  unfold Mem.Blk at h ⊢
  rw [hb]; exact h
theorem ints_rowT {base : Nat} {w : World} {L : List Int} {a : Option Addr} {c : Nat} (hr : w.ownsRow base 2 1 (.slice a L.length c) L.length (L.map (Value.int .i64))) (hI : ∀ n ∈ L, I64 n) : IntsAt w L a L.length := by
  refine ⟨rfl, fun j n hj => ⟨hI n (List.mem_of_getElem? hj), ?_⟩⟩
  have hjl := (List.getElem?_eq_some_iff.1 hj).1
  obtain ⟨g, cap, hv, -⟩ := own_form hr (by omega)
  injection hv with e1 _ e3
  subst e1; subst e3
  refine ⟨g, 0, rfl, ?_⟩
  rw [Nat.zero_add, hr.cellAt j (by omega), List.getElem?_map, hj]; rfl
/-- The look-up, the same wherever the map's block is the same. -/
theorem groups_look {P : Program} {k : TypeId} {base : Nat} {e : TypeId} {q : IntKind} {b n : Nat} {D : DataW Unit} {w : World} {t E : TypeId} {key : Value} {kl : Lit} (h : w.ownsGroups P k base e q b n D) (K : Maps.Keyed P k) (ht : P.underlying t = some (.map k E)) (hz : ∀ W, (zeroValue E).run P W = .ok (.slice none 0 0) W) (hn : n < maxLen) (hkey : keyOf P k key = some kl) :
    ∃ v zs, (∀ W : World, W.heap[b]? = w.heap[b]? → (Instr.lookup t (.map (some b)) key false).run P W = .ok v W) ∧ D.atKey kl .nil = rowDatum q v zs ∧ w.ownsInts base e q v zs ∧ zs.length ≤ n ∧ w.groupBack P t k base e q b n D key kl v := by
  obtain ⟨v, zs, hrun, h1, h2, h3, h4⟩ := h.at K ht (hz w) hn hkey
  refine ⟨v, zs, fun W hW => ?_, h1, h2, h3, h4⟩
  obtain ⟨es, clock, hb, F, -⟩ := h
  have hb' := hW.trans hb
  rcases Maps.fit_look false K ht (hz w) hb F hkey with ⟨r1, n1, -⟩ | ⟨e1, y1, m1, k1, r1, -⟩ <;> rcases Maps.fit_look false K ht (hz W) hb' F hkey with ⟨r2, n2, -⟩ | ⟨e2, y2, m2, k2, r2, -⟩
  · rw [hrun] at r1
    injection r1 with r1
    rw [r1]; exact r2
  · exact absurd k2 (n1 e2 m2)
  · exact absurd k1 (n2 e1 m1)
  · have hd : es.toList.Pairwise (fun x y => x.key ≠ y.key) := ((MapKept.stamped_iff es clock).1 F.stamped).2.2
    have he : e1 = e2 := by
      obtain ⟨i, hi⟩ := List.getElem?_of_mem m1
      obtain ⟨j, hj⟩ := List.getElem?_of_mem m2
      obtain ⟨hi1, hi2⟩ := List.getElem?_eq_some_iff.1 hi
      obtain ⟨hj1, hj2⟩ := List.getElem?_eq_some_iff.1 hj
      rcases Nat.lt_trichotomy i j with q | q | q
      · have := List.pairwise_iff_getElem.1 hd i j hi1 hj1 q
        rw [hi2, hj2, k1, k2] at this; exact absurd rfl this
      · subst q; rw [hi] at hj; exact Option.some.inj hj
      · have := List.pairwise_iff_getElem.1 hd j i hj1 hi1 q
        rw [hi2, hj2, k1, k2] at this; exact absurd rfl this
    rw [hrun] at r1
    injection r1 with r1
    rw [r1, he]; exact r2
/-- The groups stay where nothing of theirs is turned. -/
theorem groups_below {P : Program} {k : TypeId} {base : Nat} {e : TypeId} {q : IntKind} {b n : Nat} {D : DataW Unit} {w w' : World} (h : w.ownsGroups P k base e q b n D) (hb : Below w.heap.size w w') : w'.ownsGroups P k base e q b n D :=
  h.kept (row := none) (grownT hb) (by simp) (fun es clock _ x _ => by cases x.val.ownBlock <;> simp)
theorem groups_grown {P : Program} {k : TypeId} {base base' : Nat} {e e' : TypeId} {q : IntKind} {b n sz m : Nat} {D : DataW Unit} {w w' : World} {u : Value} {xs : List Value} (h : w.ownsGroups P k base e q b n D) (ho : w.ownsRow base' e' sz u m xs) (hne : e ≠ e') (g : w.grownBy w' u.ownBlock) : w'.ownsGroups P k base e q b n D := by
  have h' := h
  obtain ⟨es, clock, hb, F, -⟩ := h'
  refine h.kept g (fun e1 => ?_) (fun es2 clock2 hb2 x hx => ?_)
  · rcases ho.2 with ⟨rfl, _⟩ | ⟨g, cap, cur, rfl, _, h1, _⟩
    · cases e1
    · simp only [Value.ownBlock, Option.some.injEq] at e1
      rw [← e1, hb] at h1
      cases h1
  · obtain ⟨rfl, rfl⟩ : es2 = es ∧ clock2 = clock := by rw [hb] at hb2; simp at hb2; exact ⟨hb2.1.symm, hb2.2.symm⟩
    obtain ⟨y, hy⟩ := F.reads x hx
    obtain ⟨z, hz, _⟩ := WideElems.rd_val hy
    obtain ⟨zs, hoi, _⟩ := rowElem_inv hz
    cases hx' : x.val.ownBlock with
    | none => exact .inl rfl
    | some j =>
      refine .inr (fun e1 => ?_)
      rcases hoi.1.2 with ⟨e2, _⟩ | ⟨g1, cap1, cur1, e2, _, h2, _⟩
      · rw [e2] at hx'; cases hx'
      · rw [e2] at hx'
        simp only [Value.ownBlock, Option.some.injEq] at hx'
        rcases ho.2 with ⟨rfl, _⟩ | ⟨g3, cap, cur, rfl, _, h1, _⟩
        · cases e1
        · simp only [Value.ownBlock, Option.some.injEq] at e1
          rw [hx', e1] at h2
          rw [h1] at h2
          injection h2 with h2
          injection h2 with _ h2
          exact hne h2.symm
theorem groups_lt {P : Program} {k : TypeId} {base : Nat} {e : TypeId} {q : IntKind} {b n : Nat} {D : DataW Unit} {w : World} (h : w.ownsGroups P k base e q b n D) : b < w.heap.size := by
  obtain ⟨es, clock, hb, -⟩ := h
  exact (Array.getElem?_eq_some_iff.1 hb).1
theorem groups_map {P : Program} {k : TypeId} {base : Nat} {e : TypeId} {q : IntKind} {b n : Nat} {D : DataW Unit} {w : World} (h : w.ownsGroups P k base e q b n D) : w.ownsMap P k (rowElem w base e q) b n D := by
  obtain ⟨es, clock, hb, F, hs, hD, -⟩ := h
  exact ⟨es, clock, hb, F, hs, hD⟩
end Go.Proofs.Ytgbiimoednmlgaa

/- slices.Sorted(maps.Keys(m)) at any map of strings: a new slice of its keys, in order. -/
namespace Go.Proofs.Ytgbiimoednmlgaa
set_option linter.unusedVariables false
set_option linter.unusedSimpArgs false
open Go Go.RowKit Go.Maps Go.Sort Go.Shelf
def keys86_ren : Shelf.Ren := { f := fun x => match x with | 7 => 86 | 10 => 103 | n => n, t := fun x => match x with | 23 => 127 | 26 => 9 | 3 => 77 | 28 => 131 | 0 => 0 | 27 => 130 | 33 => 68 | 4 => 4 | n => n, g := fun x => x }
theorem keys86 : SlLaysZ.n7 Try.prog keys86_ren :=
  { mixed := by kernel_rfl,
    f7 := ⟨"maps.Keys[map[string][]int64,string,[]int64]", by decide, (Try.func86).trans (congrArg some (by kernel_rfl))⟩,
    f10 := ⟨"maps.Keys[map[string][]int64,string,[]int64]$1", by decide, (Try.func103).trans (congrArg some (by kernel_rfl))⟩,
    t0 := Try.underlying0,
    a0 := Try.isAgg0,
    z0 := Try.sizeOf0,
    v0 := Try.zeroValue0,
    t4 := Try.underlying4,
    a4 := Try.isAgg4,
    z4 := Try.sizeOf4,
    v4 := Try.zeroValue4,
    t23 := Try.underlying127,
    a23 := Try.isAgg127,
    z23 := Try.sizeOf127,
    v23 := Try.zeroValue127,
    t26 := Try.underlying9,
    a26 := Try.isAgg9,
    z26 := Try.sizeOf9,
    v26 := Try.zeroValue9,
    t27 := Try.underlying130,
    a27 := Try.isAgg130,
    z27 := Try.sizeOf130,
    v27 := Try.zeroValue130,
    t28 := Try.underlying131,
    a28 := Try.isAgg131,
    z28 := Try.sizeOf131,
    v28 := Try.zeroValue131,
    t33 := Try.underlying68,
    a33 := Try.isAgg68,
    z33 := Try.sizeOf68,
    v33 := Try.zeroValue68 }
def sorted85_ren : Shelf.Ren := { f := fun x => match x with | 6 => 85 | 8 => 101 | 9 => 102 | 11 => 110 | 13 => 84 | 12 => 111 | 23 => 99 | 24 => 100 | 14 => 114 | 15 => 115 | 16 => 116 | 17 => 117 | 18 => 118 | 19 => 119 | 20 => 120 | 21 => 121 | 22 => 122 | 25 => 123 | 26 => 106 | 27 => 107 | 28 => 124 | 29 => 125 | 30 => 90 | 31 => 126 | n => n, t := fun x => match x with | 26 => 9 | 28 => 131 | 24 => 128 | 0 => 0 | 3 => 3 | 37 => 46 | 48 => 144 | 50 => 113 | 4 => 4 | 40 => 138 | 39 => 137 | 45 => 102 | 5 => 5 | 9 => 9 | 51 => 147 | 55 => 151 | 57 => 156 | 58 => 157 | 33 => 68 | n => n, g := fun x => x }
theorem sorted85 : SlLaysZ.n6 Try.prog sorted85_ren :=
  { mixed := by kernel_rfl,
    f6 := ⟨"slices.Sorted[string]", by decide, (Try.func85).trans (congrArg some (by kernel_rfl))⟩,
    f8 := ⟨"slices.Collect[string]", by decide, (Try.func101).trans (congrArg some (by kernel_rfl))⟩,
    f11 := ⟨"slices.AppendSeq[[]string,string]", by decide, (Try.func110).trans (congrArg some (by kernel_rfl))⟩,
    t0 := Try.underlying0,
    a0 := Try.isAgg0,
    z0 := Try.sizeOf0,
    v0 := Try.zeroValue0,
    t24 := Try.underlying128,
    a24 := Try.isAgg128,
    z24 := Try.sizeOf128,
    v24 := Try.zeroValue128,
    t26 := Try.underlying9,
    a26 := Try.isAgg9,
    z26 := Try.sizeOf9,
    v26 := Try.zeroValue9,
    t28 := Try.underlying131,
    a28 := Try.isAgg131,
    z28 := Try.sizeOf131,
    v28 := Try.zeroValue131,
    i26 := by kernel_rfl }
def sort102_ren : Shelf.Ren := { f := fun x => match x with | 6 => 102 | 8 => 84 | 9 => 111 | 19 => 99 | 20 => 100 | 21 => 114 | 22 => 115 | 23 => 116 | 24 => 117 | 25 => 118 | 26 => 119 | 27 => 120 | 28 => 121 | 29 => 122 | 36 => 123 | 31 => 106 | 32 => 107 | 37 => 124 | 38 => 125 | 39 => 90 | 41 => 126 | n => n, t := fun x => match x with | 27 => 128 | 29 => 9 | 3 => 3 | 32 => 46 | 26 => 128 | 0 => 0 | 44 => 144 | 46 => 113 | 4 => 4 | 36 => 138 | 35 => 137 | 41 => 102 | 5 => 5 | 9 => 9 | 53 => 147 | 57 => 151 | 63 => 156 | 64 => 157 | n => n, g := fun x => x }
theorem sort102 : SlLaysM.n6 Try.prog sort102_ren :=
  { mixed := by kernel_rfl,
    f6 := ⟨"slices.Sort[[]string,string]", by decide, (Try.func102).trans (congrArg some (by kernel_rfl))⟩,
    f8 := (Try.func84).trans (congrArg some (by kernel_rfl)),
    f9 := ⟨"slices.pdqsortOrdered[string]", by decide, (Try.func111).trans (congrArg some (by kernel_rfl))⟩,
    f19 := (Try.func99).trans (congrArg some (by kernel_rfl)),
    f20 := (Try.func100).trans (congrArg some (by kernel_rfl)),
    f21 := ⟨"slices.insertionSortOrdered[string]", by decide, (Try.func114).trans (congrArg some (by kernel_rfl))⟩,
    f22 := ⟨"slices.heapSortOrdered[string]", by decide, (Try.func115).trans (congrArg some (by kernel_rfl))⟩,
    f23 := ⟨"slices.breakPatternsOrdered[string]", by decide, (Try.func116).trans (congrArg some (by kernel_rfl))⟩,
    f24 := ⟨"slices.choosePivotOrdered[string]", by decide, (Try.func117).trans (congrArg some (by kernel_rfl))⟩,
    f25 := ⟨"slices.reverseRangeOrdered[string]", by decide, (Try.func118).trans (congrArg some (by kernel_rfl))⟩,
    f26 := ⟨"slices.partialInsertionSortOrdered[string]", by decide, (Try.func119).trans (congrArg some (by kernel_rfl))⟩,
    f27 := ⟨"cmp.Less[string]", by decide, (Try.func120).trans (congrArg some (by kernel_rfl))⟩,
    f28 := ⟨"slices.partitionEqualOrdered[string]", by decide, (Try.func121).trans (congrArg some (by kernel_rfl))⟩,
    f29 := ⟨"slices.partitionOrdered[string]", by decide, (Try.func122).trans (congrArg some (by kernel_rfl))⟩,
    f31 := (Try.func106).trans (congrArg some (by kernel_rfl)),
    f32 := (Try.func107).trans (congrArg some (by kernel_rfl)),
    f36 := ⟨"slices.siftDownOrdered[string]", by decide, (Try.func123).trans (congrArg some (by kernel_rfl))⟩,
    f37 := ⟨"slices.medianAdjacentOrdered[string]", by decide, (Try.func124).trans (congrArg some (by kernel_rfl))⟩,
    f38 := ⟨"slices.medianOrdered[string]", by decide, (Try.func125).trans (congrArg some (by kernel_rfl))⟩,
    f39 := ⟨"cmp.isNaN[string]", by decide, (Try.func90).trans (congrArg some (by kernel_rfl))⟩,
    f41 := ⟨"slices.order2Ordered[string]", by decide, (Try.func126).trans (congrArg some (by kernel_rfl))⟩,
    t0 := Try.underlying0,
    a0 := Try.isAgg0,
    z0 := Try.sizeOf0,
    v0 := Try.zeroValue0,
    t3 := Try.underlying3,
    a3 := Try.isAgg3,
    z3 := Try.sizeOf3,
    v3 := Try.zeroValue3,
    t4 := Try.underlying4,
    a4 := Try.isAgg4,
    z4 := Try.sizeOf4,
    v4 := Try.zeroValue4,
    t5 := Try.underlying5,
    a5 := Try.isAgg5,
    z5 := Try.sizeOf5,
    v5 := Try.zeroValue5,
    t9 := Try.underlying9,
    a9 := Try.isAgg9,
    z9 := Try.sizeOf9,
    v9 := Try.zeroValue9,
    t26 := Try.underlying128,
    a26 := Try.isAgg128,
    z26 := Try.sizeOf128,
    v26 := Try.zeroValue128,
    t27 := Try.underlying128,
    a27 := Try.isAgg128,
    z27 := Try.sizeOf128,
    v27 := Try.zeroValue128,
    t29 := Try.underlying9,
    a29 := Try.isAgg9,
    z29 := Try.sizeOf9,
    v29 := Try.zeroValue9,
    t32 := Try.underlying46,
    a32 := Try.isAgg46,
    z32 := Try.sizeOf46,
    v32 := Try.zeroValue46,
    t35 := Try.underlying137,
    a35 := Try.isAgg137,
    z35 := Try.sizeOf137,
    v35 := Try.zeroValue137,
    t36 := Try.underlying138,
    a36 := Try.isAgg138,
    z36 := Try.sizeOf138,
    v36 := Try.zeroValue138,
    t41 := Try.underlying102,
    a41 := Try.isAgg102,
    z41 := Try.sizeOf102,
    v41 := Try.zeroValue102,
    t44 := Try.underlying144,
    a44 := Try.isAgg144,
    z44 := Try.sizeOf144,
    v44 := Try.zeroValue144,
    t46 := Try.underlying113,
    a46 := Try.isAgg113,
    z46 := Try.sizeOf113,
    v46 := Try.zeroValue113,
    t53 := Try.underlying147,
    a53 := Try.isAgg147,
    z53 := Try.sizeOf147,
    v53 := Try.zeroValue147,
    t57 := Try.underlying151,
    a57 := Try.isAgg151,
    z57 := Try.sizeOf151,
    v57 := Try.zeroValue151,
    t63 := Try.underlying156,
    a63 := Try.isAgg156,
    z63 := Try.sizeOf156,
    v63 := Try.zeroValue156,
    t64 := Try.underlying157,
    a64 := Try.isAgg157,
    z64 := Try.sizeOf157,
    v64 := Try.zeroValue157 }
/-- maps.Keys at whatever map. -/
theorem mapKeys_int64 (mb : Option Nat) (W : World) : Calls Try.prog 86 #[.map mb] W fun e w' => e = .returned (.func (.func 103) #[] #[.pointer (some ⟨W.heap.size, 0, none⟩)]) ∧ w' = W.alloc (.cells #[.map mb] 127) :=
  callsIn_wide.1 (AnyZ.keys_in keys86 Fence.wide 5 trivial rfl mb W)
theorem sorts_85 (m : Nat) : AnyZ.SortsIn Try.prog sorted85_ren Fence.wide m :=
  ⟨fun blk off cap ss W hH hblk hsz => callsIn_wide.2 (AnyM.slices_Sort_string sort102 blk off cap ss W hH hblk hsz),
   fun p cap W => callsIn_wide.2 (AnyM.slices_Sort_string_none sort102 p cap W)⟩
/-- slices.Sorted at the keys of a map that isn't nil. -/
theorem sortedKeys_int64 {H : Type} (p b nn : Nat) (D0 : DataW H) (R : Value → Option (DataW H × List MemPlace)) (w : World) (hp : p < w.heap.size) (hc : w.cell? ⟨p, 0, none⟩ = some (.map (some b))) (hown : w.ownsMap Try.prog 9 R b nn D0) (hmax : Maps.size D0 ≤ maxLen) (hbytes : Maps.size D0 * 16 ≤ 140737488355328) :
    Calls Try.prog 85 #[.func (.func 103) #[] #[.pointer (some ⟨p, 0, none⟩)]] w fun e w' => ∃ (v : Value) (ss : List (List UInt8)), e = .returned v ∧ ss.Perm (strKeys D0) ∧
      w'.ownsRow w.heap.size 9 1 v ss.length ((ss.mergeSort (fun x y => decide (x ≤ y))).map encStr) ∧ (v = .slice none 0 0 ↔ ss = []) ∧ Below w.heap.size w w' :=
  callsIn_wide.1 (AnyZ.sorted_in sorted85 Fence.wide 5 trivial trivial trivial trivial rfl (by omega) (sorts_85 _) (enters_of Try.func102 (by kernel_rfl) rfl) 103 #[.pointer (some ⟨p, 0, none⟩)] trivial (enters_of Try.func103 (by kernel_rfl) rfl) _ _ hmax hbytes _
    (AnyZ.keys_gives (ρ := keys86_ren) { keys86 with } Fence.wide _ trivial rfl (by omega) p b nn D0 _ hp hc hown))
end Go.Proofs.Ytgbiimoednmlgaa

/- life.Total: the map filled, walked. -/
namespace Go.Proofs.Ytgbiimoednmlgaa
set_option linter.unusedVariables false
set_option linter.unusedSimpArgs false
open Go.RowKit Go.ChangeShapes
/-- Where the gathering stands. -/
structure TgSt (w wr : World) (mb k : Nat) (fl : List Flw) : Prop where
  gr : ∃ ks D, wr.ownsGroups Try.prog 9 (mb + 1) 2 .i64 mb k D ∧ MapK ks fl D
  bel : Below w.heap.size w wr
  lo : w.heap.size ≤ mb
theorem TgSt.hi {w wr : World} {mb k : Nat} {fl : List Flw} (h : TgSt w wr mb k fl) : mb < wr.heap.size := by
  obtain ⟨ks, D, h, -⟩ := h.gr
  exact groups_lt h
theorem TgSt.below {w wr w' : World} {mb k : Nat} {fl : List Flw} (h : TgSt w wr mb k fl) (b : Below wr.heap.size wr w') : TgSt w w' mb k fl := by
  obtain ⟨ks, D, h1, h2⟩ := h.gr
  exact ⟨⟨ks, D, groups_below h1 b, h2⟩, h.bel.trans (b.mono h.bel.size), h.lo⟩
/-- One flow more. -/
theorem TgSt.next {w w3 : World} {mb k : Nat} {fl : List Flw} (h : TgSt w w3 mb k fl) (f : Flw) (hf : FlOk f) (hk : k < 1000000) :
    ∃ (v : Value) (zs : List Int), (∀ W : World, W.heap[mb]? = w3.heap[mb]? → (Instr.lookup 127 (.map (some mb)) (.string f.coin) false).run Try.prog W = .ok v W) ∧ w3.ownsRow (mb + 1) 2 1 v zs.length (zs.map (Value.int .i64)) ∧ zs.length ≤ k ∧
      ∀ (w1 : World) (v' : Value), w3.grownBy w1 v.ownBlock → w1.ownsRow (mb + 1) 2 1 v' (zs.length + 1) (zs.map (Value.int .i64) ++ [.int .i64 f.amt]) → (v'.ownBlock = v.ownBlock ∨ ∃ g, v'.ownBlock = some g ∧ w3.heap.size ≤ g) →
        ∃ w2, (Instr.mapUpdate 127 (.map (some mb)) (.string f.coin) v').run Try.prog w1 = .ok () w2 ∧ TgSt w w2 mb (k + 1) (fl ++ [f]) := by
  obtain ⟨ks, D, hg, hm⟩ := h.gr
  obtain ⟨v, zs, hrun, hat, hoi, hzl, hback⟩ := groups_look (t := 127) (E := 77) (key := .string f.coin) hg (Maps.string_keyed Try.underlying9) Try.underlying127 zeroI64s (by unfold maxLen; omega) (Go.WideMaps.keyOf_string_mk Try.underlying9 hf.coin)
  refine ⟨v, zs, hrun, hoi.1, hzl, fun w1 v' hgr hown hloc => ?_⟩
  have hap := hoi.appended hown (x := f.amt) (by
    have := hf.amt
    unfold I64 at this
    exact WalkArith.wf_i64 (by omega))
  have hzs := hm.ints hat hoi
  obtain ⟨w2, hr2, hg2, hgr2⟩ := hback w1 v' (zs ++ [f.amt]) hgr hap (by rw [List.length_append]; show zs.length + 1 ≤ k + 1; omega) hloc
  rw [hap.datum_pos (by simp)] at hg2
  have hmp := hm.put f
  rw [← hzs] at hmp
  refine ⟨w2, hr2, ⟨⟨_, _, hg2, hmp⟩, ?_, h.lo⟩⟩
  · exact (h.bel).groups hoi hgr hgr2 h.bel.size (Nat.le_succ_of_le h.lo) h.lo
/-- A currency looked up. -/
theorem TgSt.look {w wr : World} {mb k : Nat} {fl : List Flw} (h : TgSt w wr mb k fl) (hok : ∀ f ∈ fl, FlOk f) (s : ByteArray) (hs : s.size ≤ maxLen) (hk : k < 1000000) :
    ∃ (a : Option Addr) (c : Nat), (Instr.lookup 127 (.map (some mb)) (.string s) false).run Try.prog wr = .ok (.slice a (amtF fl s.data.toList).length c) wr ∧ IntsAt wr (amtF fl s.data.toList) a (amtF fl s.data.toList).length := by
  obtain ⟨ks, D, hg, hm⟩ := h.gr
  obtain ⟨v, zs, hrun, hat, hoi, hzl, -⟩ := groups_look (t := 127) (E := 77) (key := .string s) hg (Maps.string_keyed Try.underlying9) Try.underlying127 zeroI64s (by unfold maxLen; omega) (Go.WideMaps.keyOf_string_mk Try.underlying9 hs)
  obtain rfl := hm.ints hat hoi
  obtain ⟨a, c, rfl⟩ := own_slice hoi.1
  exact ⟨a, c, hrun wr rfl, ints_rowT hoi.1 (fun n hn => by
    obtain ⟨f, hf, rfl⟩ := amtF_mem hn
    exact (hok f hf).amt)⟩
theorem TgSt.grown {w wr w' : World} {mb k : Nat} {fl : List Flw} {u : Value} {m base : Nat} {xs : List Value} (h : TgSt w wr mb k fl) (ho : wr.ownsRow base 64 2 u m xs) (hbs : w.heap.size ≤ base) (g : wr.grownBy w' u.ownBlock) : TgSt w w' mb k fl := by
  obtain ⟨ks, D, h1, h2⟩ := h.gr
  exact ⟨⟨ks, D, groups_grown h1 ho (by decide) g, h2⟩, h.bel.grown g h.bel.size (fun j e => Nat.le_trans hbs (own_lt ho e).1), h.lo⟩
theorem strK_at {w : World} {X : List Nat} {l : List Tx} {a : Option Addr} {len cap : Nat} (h : SlR strK w X l a len cap) (k : Nat) (hk : k < len) : ∃ b o t, a = some ⟨b, o, none⟩ ∧ l[k]? = some t ∧ w.cell? ⟨b, o + k, none⟩ = some (.string ⟨t.toArray⟩) := by
  obtain ⟨b, o, f, cs, ha, hb, hX, hf, h1, -, hc⟩ := h.at k hk
  obtain rfl := h1
  have := hc 0 _ rfl
  exact ⟨b, o, f, ha, hf, by simpa [strK] using this⟩
/-- What Total answers, in memory. -/
def ToR (ec : Bool → Value) (w' : World) (fl : List Flw) (x : Ending) : Prop := ∃ (out : List Flw) (a : Option Addr) (c : Nat) (b : Bool), x = .returned (.tuple #[.slice a out.length c, ec b]) ∧ SlR flK w' [] out a out.length c ∧ TotV fl out b ∧ out.length ≤ fl.length
set_option maxRecDepth 100000 in
set_option maxHeartbeats 8000000 in
theorem ltotal_any (fl : List Flw) (a : Option Addr) (len cap : Nat) (w : World) (h : SlR flK w [] fl a len cap) (hlen : len ≤ 1000) :
    Calls Try.prog 62 #[.slice a len cap] w fun x w' => ToR (fun b => .int .i64 (if b then 0 else 2)) w' fl x ∧ Below w.heap.size w w' := by
  have HS := Lib.hid h
  have HL := Lib.hid h.facts.1
  have HN := Lib.hid hlen
  have HFO := Lib.hid (fl_ok h)
  have hmm := @run_makeMap Try.prog
  clear h hlen
  go_enter Try.func62, Try.ntmps62
  go_upto_region 3 with (fail)
  have HT0 : Hid (TgSt w (w.alloc (.map #[] 0)) w.heap.size 0 (fl.take 0)) := ⟨⟨[], .map [], World.ownsGroups_made _ _ _ _ _, MapK.nil⟩, below_nT w _, Nat.le_refl _⟩
  obtain ⟨mb, hmb⟩ : ∃ m, m = w.heap.size := ⟨_, rfl⟩
  rw [← hmb] at HT0 ⊢
  clear hmb hmm
  generalize (w.alloc (.map #[] 0)) = w1 at *
  go_loopw [15] (fun i wr => ∃ (k : Nat), i = .int .i64 (k : Nat) ∧ k ≤ len ∧ Hid (TgSt w wr mb k (fl.take k))) (fun i _ => len - (intOf i).toNat)
  case atStart => exact ⟨0, rfl, Nat.zero_le _, HT0.out⟩
  case round =>
    clear HT0
    obtain ⟨k, rfl, hk, HT⟩ := hrel
    by_cases hlt : k < len
    · have hlt' : (k : Int) < (len : Int) := by omega
      have i0 : (0 : Int) ≤ (k : Int) := by omega
      have i1 : (k : Int) ≤ 1000 := by have := HN.out; omega
      obtain ⟨b, o, f, rfl, hf, hok, u0, u1⟩ := fl_at (HS.out.kept (Kept.of_below HT.out.bel [])) k hlt
      have hb1 := below_nT wr (.cells #[.string f.coin, .int .i64 f.amt] 64)
      have BF := Lib.hid (Mem.Blk.new wr 64 #[.string f.coin, .int .i64 f.amt])
      have HT3 := Lib.hid (HT.out.below hb1)
      have HTK := Lib.hid (take_snoc hf)
      have HOK := Lib.hid hok
      have HLT := Lib.hid hlt
      clear hb1 HT hf hok hlt
      go_upto_region 5 with (fail)
      generalize (wr.alloc (.cells #[.string f.coin, .int .i64 f.amt] 64)) = w3 at *
      obtain ⟨fb, hfb⟩ : ∃ m, m = wr.heap.size := ⟨_, rfl⟩
      rw [← hfb] at BF ⊢
      clear hfb u0 u1
      obtain ⟨v, zs, hlook, hown, hzl, hnx⟩ := HT3.out.next f HOK.out (by omega)
      have HNX := Lib.hid hnx
      have HOW := Lib.hid hown
      have HZL := Lib.hid hzl
      obtain ⟨z0, z1, -, -⟩ := BF.out.two
      have hmb : w3.heap[mb]? = w3.heap[mb]? := rfl
      clear hnx hown hzl
      refine wp_region_till (S := fun W => W.cell? ⟨fb, 0, none⟩ = some (.string f.coin) ∧ W.cell? ⟨fb, 1, none⟩ = some (.int .i64 f.amt) ∧ W.heap[mb]? = w3.heap[mb]?) 11 (by kernel_rfl) ?_
      refine till_take (i := 0) (v := ?_) rfl (by kernel_rfl) (fun _ _ _ h => h) (Or.inl ⟨by rfl, ?_⟩) ⟨z0,z1,hmb⟩ ?_
      rotate_left
      · intro W hS
        try dsimp only at hS
        go_split_ands
        go_simp
        try with_reducible rfl
      try simp only [Act.put, List.getElem_toArray, List.getElem_cons_zero, List.getElem_cons_succ, List.setIfInBounds_toArray, List.set_cons_zero, List.set_cons_succ]
      refine till_take (i := 1) (v := ?_) rfl (by kernel_rfl) (fun _ _ _ h => h) (Or.inl ⟨by rfl, ?_⟩) ⟨z0,z1,hmb⟩ ?_
      rotate_left
      · intro W hS
        try dsimp only at hS
        go_split_ands
        go_simp
        try with_reducible rfl
      try simp only [Act.put, List.getElem_toArray, List.getElem_cons_zero, List.getElem_cons_succ, List.setIfInBounds_toArray, List.set_cons_zero, List.set_cons_succ]
      refine till_take (i := 2) (v := ?_) rfl (by kernel_rfl) (fun _ _ _ h => h) (Or.inl ⟨by rfl, ?_⟩) ⟨z0,z1,hmb⟩ ?_
      rotate_left
      · intro W hS
        try dsimp only at hS
        go_split_ands
        go_simp
        try with_reducible rfl
      try simp only [Act.put, List.getElem_toArray, List.getElem_cons_zero, List.getElem_cons_succ, List.setIfInBounds_toArray, List.set_cons_zero, List.set_cons_succ]
      refine till_take (i := 3) (v := ?_) rfl (by kernel_rfl) (fun _ _ _ h => h) (Or.inl ⟨by rfl, ?_⟩) ⟨z0,z1,hmb⟩ ?_
      rotate_left
      · intro W hS
        try dsimp only at hS
        go_split_ands
        go_simp
        try with_reducible rfl
      try simp only [Act.put, List.getElem_toArray, List.getElem_cons_zero, List.getElem_cons_succ, List.setIfInBounds_toArray, List.set_cons_zero, List.set_cons_succ]
      refine till_take (i := 4) (v := ?_) rfl (by kernel_rfl) (fun _ _ _ h => h) (Or.inl ⟨by rfl, ?_⟩) ⟨z0,z1,hmb⟩ ?_
      rotate_left
      · intro W hS
        try dsimp only at hS
        go_split_ands
        go_simp
        try with_reducible rfl
      try simp only [Act.put, List.getElem_toArray, List.getElem_cons_zero, List.getElem_cons_succ, List.setIfInBounds_toArray, List.set_cons_zero, List.set_cons_succ]
      refine till_take (i := 5) (v := ?_) rfl (by kernel_rfl) (fun _ _ _ h => h) (Or.inl ⟨by rfl, ?_⟩) ⟨z0,z1,hmb⟩ ?_
      rotate_left
      · intro W hS
        try dsimp only at hS
        go_split_ands
        go_simp
        try with_reducible rfl
      try simp only [Act.put, List.getElem_toArray, List.getElem_cons_zero, List.getElem_cons_succ, List.setIfInBounds_toArray, List.set_cons_zero, List.set_cons_succ]
      refine till_take (i := 6) (v := v) rfl (by kernel_rfl) (fun _ _ _ h => h) (Or.inl ⟨by rfl, ?_⟩) ⟨z0,z1,hmb⟩ ?_
      · intro W hS
        have hl := hlook W hS.2.2
        go_simp
      try simp only [Act.put, List.getElem_toArray, List.getElem_cons_zero, List.getElem_cons_succ, List.setIfInBounds_toArray, List.set_cons_zero, List.set_cons_succ]
      refine till_take (i := 7) (v := ?_) rfl (by kernel_rfl) (fun _ _ _ h => h) (Or.inl ⟨by rfl, ?_⟩) ⟨z0,z1,hmb⟩ ?_
      rotate_left
      · intro W hS
        try dsimp only at hS
        go_split_ands
        go_simp
        try with_reducible rfl
      try simp only [Act.put, List.getElem_toArray, List.getElem_cons_zero, List.getElem_cons_succ, List.setIfInBounds_toArray, List.set_cons_zero, List.set_cons_succ]
      refine till_take (i := 8) (v := ?_) rfl (by kernel_rfl) (fun _ _ _ h => h) (Or.inl ⟨by rfl, ?_⟩) ⟨z0,z1,hmb⟩ ?_
      rotate_left
      · intro W hS
        try dsimp only at hS
        go_split_ands
        go_simp
        try with_reducible rfl
      try simp only [Act.put, List.getElem_toArray, List.getElem_cons_zero, List.getElem_cons_succ, List.setIfInBounds_toArray, List.set_cons_zero, List.set_cons_succ]
      have hal : Below w3.heap.size w3 (w3.alloc (.cells #[.int .i64 f.amt] 2)).drew := (below_nT w3 _).drew
      have HR5 := Lib.hid (own_below HOW.out hal)
      have HCN : Hid (∀ j u, [Value.int .i64 f.amt][j]? = some u → (w3.alloc (.cells #[.int .i64 f.amt] 2)).drew.cell? ((⟨w3.heap.size, 0, none⟩ : Addr).add j) = some u) := lit_cells_at w3 #[.int .i64 f.amt] 2 w3.heap.size rfl
      have HG5 := Lib.hid (grownT (row := v.ownBlock) hal)
      have HSB : Hid (mb + 1 ≤ (w3.alloc (.cells #[.int .i64 f.amt] 2)).drew.heap.size) := Nat.le_trans HT3.out.hi hal.size
      have BF5 := Lib.hid (BF.out.below hal)
      have HM5 : Hid ((w3.alloc (.cells #[.int .i64 f.amt] 2)).drew.heap[mb]? = w3.heap[mb]?) := hal.block mb HT3.out.hi
      refine till_one (i := 9) (by kernel_rfl) rfl (fun K' hK => ?_)
      go_simp
      refine hK _ _ ⟨BF5.out.cell 0, BF5.out.cell 1, HM5.out⟩ ?_
      clear hK K' hal z0 z1 hmb hlook
      generalize (w3.alloc (.cells #[.int .i64 f.amt] 2)).drew = w5 at *
      obtain ⟨nb, hnb⟩ : ∃ z, z = w3.heap.size := ⟨_, rfl⟩
      rw [← hnb] at HCN ⊢
      clear hnb
      try simp only [Act.put, List.getElem_toArray, List.getElem_cons_zero, List.getElem_cons_succ, List.setIfInBounds_toArray, List.set_cons_zero, List.set_cons_succ]
      refine till_one (i := 10) (by kernel_rfl) rfl (fun K' hK => ?_)
      refine step_ap infoI8 Try.underlying77 rfl (by decide) rfl (.tmp 25) (.tmp 28) rfl rfl HR5.out HSB.out ⟨nb, 0, none⟩ 1 1 [.int .i64 f.amt] rfl rfl HCN.out (by simp [Value.oneCell']) (by have := HZL.out; unfold maxLen; omega) (by have := HZL.out; omega) ?_
      intro v6 w6 o1 g1 hv1
      have hgb : ∀ j, v.ownBlock = some j → mb + 1 ≤ j := fun j hj => (own_lt HR5.out hj).1
      have BF6 := blk_grownT BF5.out g1 (fun e => blkRowT BF5.out HR5.out (by decide) e)
      have HM6 : w6.heap[mb]? = w3.heap[mb]? := (g1.block mb (by have := HSB.out; omega) (fun e => by have := hgb mb e.symm; omega)).trans HM5.out
      obtain ⟨w7, hrun7, HT7⟩ := HNX.out w6 v6 (World.grownBy.trans HG5.out g1) o1 (hv1.imp id (fun e => ⟨_, e, HG5.out.size⟩))
      rw [← HTK.out] at HT7
      have HT8 := Lib.hid HT7
      refine hK _ _ ⟨BF6.cell 0, BF6.cell 1, HM6⟩ ?_
      clear hK K' o1 g1 hv1 hgb BF6 HM6 HT7 HNX HR5 HCN HG5 HSB BF5 HM5 HTK HOW HT3
      try simp only [Act.put, List.getElem_toArray, List.getElem_cons_zero, List.getElem_cons_succ, List.setIfInBounds_toArray, List.set_cons_zero, List.set_cons_succ]
      refine till_last (by kernel_rfl) rfl (by kernel_rfl) (fun K' hK => ?_)
      go_simp
      refine hK _ _ ?_
      clear hK K' hrun7
      try simp only [Act.put, List.getElem_toArray, List.getElem_cons_zero, List.getElem_cons_succ, List.setIfInBounds_toArray, List.set_cons_zero, List.set_cons_succ]
      refine wpAny_done (by kernel_rfl) ?_ _
      go_wp2_with fail
      go_roundw
      case rel => exact ⟨k + 1, by go_num, by have := HLT.out; omega, HT8.out⟩
      case measure => simp [intOf]; have := HLT.out; omega
    · have hlt' : ¬ (k : Int) < (len : Int) := by omega
      rw [List.take_of_length_le (by rw [HL.out]; omega)] at HT
      clear hlt
      go_wp2_with fail
      go_at_call 86
      (with_reducible refine (mapKeys_int64 _ _).mono ?_)
      rintro y w2 ⟨rfl, rfl⟩
      have hb := below_nT wr (.cells #[.map (some mb)] 127)
      have HT2 := Lib.hid (HT.out.below hb)
      have BZ := Lib.hid (Mem.Blk.new wr 127 #[.map (some mb)])
      clear hb HT
      go_wp2_with fail
      generalize wr.alloc (.cells #[.map (some mb)] 127) = w2 at *
      obtain ⟨pz, hpz⟩ : ∃ p, p = wr.heap.size := ⟨_, rfl⟩
      rw [← hpz] at BZ ⊢
      clear hpz
      have hcz : w2.cell? ⟨pz, 0, none⟩ = some (Value.map (some mb)) := BZ.out.cell 0
      obtain ⟨ks0, D, hG, hM⟩ := HT2.out.gr
      have hsz := hM.size
      have hks := hM.len
      go_at_call 85
      (with_reducible refine (sortedKeys_int64 pz mb k D _ w2 BZ.out.lt hcz (groups_map hG) (by have := HN.out; have := HL.out; unfold maxLen; omega) (by have := HN.out; have := HL.out; omega)).mono ?_)
      rintro y w5 ⟨v', ss, rfl, hpm, hrow, -, hb5⟩
      obtain ⟨hsr, hsl⟩ := hM.srt hpm
      obtain ⟨ks, hkk⟩ : ∃ ks, ks = ss.mergeSort (fun x y => decide (x ≤ y)) := ⟨_, rfl⟩
      have hkl : ss.length = ks.length := by rw [hkk, List.length_mergeSort]
      rw [← hkk] at hsr hrow
      rw [hkl] at hrow
      obtain ⟨na, nc, rfl, hns⟩ := own_strs (w0 := w2) hrow rfl hb5 (X := []) (fun g hg => nomatch hg)
      have HNS := Lib.hid hns
      have HSR := Lib.hid hsr
      have HKL : Hid (ks.length ≤ 1000) := by
        have h1 := HN.out
        have h2 := HL.out
        show _ ≤ _
        omega
      have HKF : Hid (ks.length ≤ fl.length) := by
        show _ ≤ _
        omega
      have HT5 := Lib.hid (HT2.out.below hb5)
      have HB5 := Lib.hid (Below.refl w5.heap.size w5)
      have HWS : Hid (w.heap.size ≤ w5.heap.size) := HT5.out.bel.size
      clear hcz hG hM hsz hks hpm hrow hb5 hsr hsl hkk hkl hns HT2 BZ
      have HSZ : Hid (∀ t ∈ ks, (⟨t.toArray⟩ : ByteArray).size ≤ maxLen) := by
        intro t ht
        obtain ⟨f, hf, rfl⟩ := (HSR.out.all t).1 ht
        exact (HFO.out f hf).coin
      go_wp2_with fail
      go_loopw [7, 35] (fun vo vi wr => ∃ (j : Nat) (oa : Option Addr) (oc : Nat), vo = .slice oa (totL (ks.take j) fl).length oc ∧ vi = .int .i64 (j : Nat) ∧ j ≤ ks.length ∧ Hid (TgSt w wr mb k fl) ∧ Hid (Below w5.heap.size w5 wr) ∧ Hid (wr.ownsRow w5.heap.size 64 2 (.slice oa (totL (ks.take j) fl).length oc) (totL (ks.take j) fl).length (outF (totL (ks.take j) fl)) ∧ ∀ t ∈ ks.take j, fits64 (amtF fl t).sum = true)) (fun _ vi _ => ks.length - (intOf vi).toNat)
      case atStart => exact ⟨0, none, 0, rfl, rfl, Nat.zero_le _, HT5.out, HB5.out, World.ownsRow_nil _ _ _ _, fun t ht => nomatch ht⟩
      case round =>
        clear HT5 HB5
        rename World => w6
        obtain ⟨j, oa, oc, rfl, rfl, hj, HT, HB, HR⟩ := hrel
        by_cases hjt : j < ks.length
        · have hjt' : (j : Int) < (ks.length : Int) := by omega
          have j0 : (0 : Int) ≤ (j : Int) := by omega
          have j1 : (j : Int) ≤ 1000 := by have := HKL.out; omega
          obtain ⟨b, o, t, hna, ht, u0⟩ := strK_at (HNS.out.kept (Kept.of_below HB.out [])) j hjt
          have HNA := Lib.hid hna
          subst hna
          have HJT := Lib.hid hjt
          have htm := List.mem_of_getElem? ht
          have hsz := HSZ.out t htm
          have hdt : (⟨t.toArray⟩ : ByteArray).data.toList = t := by simp
          obtain ⟨va, vc, hlook, hints⟩ := HT.out.look HFO.out ⟨t.toArray⟩ hsz (by have := HN.out; omega)
          rw [hdt] at hlook hints
          have HSU := Lib.hid (sum_any (amtF fl t) va (amtF fl t).length vc w6 hints (by have h1 := amtF_len fl t; have := HN.out; have := HL.out; omega))
          have HTK := Lib.hid (totL_take (fl := fl) ht)
          have HTT := Lib.hid (take_snoc ht)
          have HTM := Lib.hid htm
          obtain ⟨S, hS⟩ : ∃ S, S = (amtF fl t).sum := ⟨_, rfl⟩
          rw [← hS] at HSU HTK
          have HS := Lib.hid hS
          clear hints hS ht htm hsz hdt hjt
          go_wp2_with fail
          go_at_call 37
          (with_reducible refine HSU.out.mono ?_)
          rintro y w7 ⟨rfl, rfl⟩
          cases hfs : fits64 S with
          | false =>
            have HV : Hid (TotV fl [] false) := ⟨ks, HSR.out, .inl ⟨rfl, rfl, t, HTM.out, by rw [← HS.out]; exact hfs⟩⟩
            clear hlook hfs HSU HTK
            go_wp2_with fail
            go_ret2
            exact ⟨⟨[], none, 0, false, rfl, SlR.nil _ _ _, HV.out, Nat.zero_le _⟩, HT.out.bel⟩
          | true =>
            have HFT : Hid (∀ t ∈ ks.take (j + 1), fits64 (amtF fl t).sum = true) := by
              intro s hs
              rw [HTT.out] at hs
              rcases List.mem_append.1 hs with hs | hs
              · exact HR.out.2 s hs
              · rw [List.mem_singleton] at hs; subst hs
                rw [← HS.out]; exact hfs
            have HSI : Hid (I64 S) := by
              unfold fits64 at hfs
              rw [Bool.and_eq_true, decide_eq_true_iff, decide_eq_true_iff] at hfs
              exact hfs
            have hif : (if true = true then S else 0) = S := if_pos rfl
            clear hlook hfs HSU HTT
            by_cases h0 : S = 0
            · rw [if_pos h0, List.append_nil] at HTK
              have hb0 : (S != 0) = false := by simp [h0]
              have hb1 : S = 0 := h0
              have HR2 : Hid (w6.ownsRow w5.heap.size 64 2 (.slice oa (totL (ks.take (j + 1)) fl).length oc) (totL (ks.take (j + 1)) fl).length (outF (totL (ks.take (j + 1)) fl)) ∧ ∀ t ∈ ks.take (j + 1), fits64 (amtF fl t).sum = true) := by
                rw [HTK.out]; exact ⟨HR.out.1, HFT.out⟩
              clear h0 HFT HR
              subst hb1
              go_wp2_with fail
              go_roundw
              case rel => exact ⟨j + 1, oa, oc, by rw [HTK.out], by go_num, by have := HJT.out; omega, HT.out, HB.out, HR2.out⟩
              case measure => simp [intOf]; have := HJT.out; omega
            · rw [if_neg h0] at HTK
              have hb0 : (S != 0) = true := by simp [h0]
              have hal := below_nT w6 (.cells #[.string ⟨t.toArray⟩, .int .i64 S] 64)
              have HO2 := Lib.hid (own_below HR.out.1 hal)
              have HT2 := Lib.hid (HT.out.below hal)
              have HB2 := Lib.hid (HB.out.trans (hal.mono HB.out.size))
              have HSB : Hid (w5.heap.size ≤ (w6.alloc (.cells #[.string ⟨t.toArray⟩, .int .i64 S] 64)).heap.size) := HB2.out.size
              have HLE : Hid ((totL (ks.take j) fl).length ≤ 1000) := by
                have h1 := totL_len (ks.take j) fl
                rw [List.length_take] at h1
                have h2 := HKL.out
                show _ ≤ _
                omega
              clear hal h0 u0
              go_wp2_with (at_builtin; refine ap_row infoLF Try.underlying62 rfl (by decide) rfl (.tmp 50) (.tmp 54) rfl rfl HO2.out HSB.out ⟨w6.heap.size, 0, none⟩ 1 1 [.string ⟨t.toArray⟩, .int .i64 S] rfl rfl (lit_cells_at w6 #[.string ⟨t.toArray⟩, .int .i64 S] 64 _ rfl) (by simp [Value.oneCell']) (by have := HLE.out; unfold maxLen; omega) (by have := HLE.out; omega) ?_; intro v3 w3 o1 g1 hv1; have HO3 := Lib.hid o1; have HG3 := Lib.hid g1; clear o1 g1 hv1)
              have HT3 := Lib.hid (HT2.out.grown HO2.out HWS.out HG3.out)
              have HB3 := Lib.hid (HB2.out.grown HG3.out HB2.out.size (fun b hb => (own_lt HO2.out hb).1))
              obtain ⟨a', c', rfl⟩ := own_slice HO3.out
              have HLN : Hid ((totL (ks.take j) fl).length + 1 = (totL (ks.take (j + 1)) fl).length) := by show _ = _; rw [HTK.out, List.length_append]; rfl
              have HR3 : Hid (w3.ownsRow w5.heap.size 64 2 (.slice a' (totL (ks.take (j + 1)) fl).length c') (totL (ks.take (j + 1)) fl).length (outF (totL (ks.take (j + 1)) fl)) ∧ ∀ t ∈ ks.take (j + 1), fits64 (amtF fl t).sum = true) := by
                rw [← HLN.out]
                refine ⟨?_, HFT.out⟩
                rw [HTK.out, outF_append, outF_one]
                exact HO3.out
              clear HO3 HO2 HB2 HG3 HT2 HTK HSB HFT HR
              go_roundw
              case rel => exact ⟨j + 1, a', c', by rw [HLN.out], by go_num, by have := HJT.out; omega, HT3.out, HB3.out, HR3.out⟩
              case measure => simp [intOf]; have := HJT.out; omega
        · have hjt' : ¬ (j : Int) < (ks.length : Int) := by omega
          rw [List.take_of_length_le (by omega)] at HR ⊢
          have HFI : Hid (∃ a c, Value.slice oa (totL ks fl).length oc = .slice a (totL ks fl).length c ∧ SlR flK w6 [] (totL ks fl) a (totL ks fl).length c) := outF_any HR.out.1 HB.out (fun f hf => by
            unfold totL at hf
            obtain ⟨t, ht, he⟩ := List.mem_filterMap.1 hf
            split at he
            · cases he
            · injection he with he
              subst he
              refine ⟨HSZ.out t ht, ?_⟩
              have h1 := HR.out.2 t ht
              unfold fits64 at h1
              rw [Bool.and_eq_true, decide_eq_true_iff, decide_eq_true_iff] at h1
              exact h1)
          have HV : Hid (TotV fl (totL ks fl) true) := ⟨ks, HSR.out, .inr ⟨rfl, rfl, HR.out.2⟩⟩
          have HLE : Hid ((totL ks fl).length ≤ fl.length) := Nat.le_trans (totL_len ks fl) HKF.out
          clear HR hjt
          go_wp2_with fail
          go_ret2
          obtain ⟨a, c, e, hs⟩ := HFI.out
          exact ⟨⟨totL ks fl, a, c, true, by rw [e]; rfl, hs, HV.out, HLE.out⟩, HT.out.bel⟩
end Go.Proofs.Ytgbiimoednmlgaa

/- Numbers by their digits to the base 65536: plain arithmetic, no program in sight. -/
namespace Go.Big
/-- digits to the base 65536, the lowest first -/
def val : List Nat → Nat
  | [] => 0
  | d :: l => d + 65536 * val l
def Dig (l : List Nat) : Prop := ∀ d ∈ l, d < 65536
def Norm (l : List Nat) : Prop := Dig l ∧ (∀ d, l.getLast? = some d → d ≠ 0)
def pw (k : Nat) : Nat := 65536 ^ k
theorem pw_succ (k : Nat) : pw (k + 1) = 65536 * pw k := by unfold pw; rw [Nat.pow_succ, Nat.mul_comm]
theorem pw_zero : pw 0 = 1 := rfl
theorem pw_pos (k : Nat) : 0 < pw k := Nat.pow_pos (by omega)
theorem pw_add (a b : Nat) : pw (a + b) = pw a * pw b := Nat.pow_add _ _ _
theorem pw_mono {a b : Nat} (h : a ≤ b) : pw a ≤ pw b := Nat.pow_le_pow_right (by omega) h
theorem Dig.nil : Dig [] := by intro d h; cases h
theorem Dig.append {a b : List Nat} (ha : Dig a) (hb : Dig b) : Dig (a ++ b) := by
  intro d h; rcases List.mem_append.1 h with h | h
  · exact ha d h
  · exact hb d h
theorem Dig.take {a : List Nat} (ha : Dig a) (k : Nat) : Dig (a.take k) := fun d h => ha d (List.mem_of_mem_take h)
theorem Dig.drop {a : List Nat} (ha : Dig a) (k : Nat) : Dig (a.drop k) := fun d h => ha d (List.mem_of_mem_drop h)
theorem Dig.getD {a : List Nat} (ha : Dig a) (k : Nat) : a.getD k 0 < 65536 := by
  rw [List.getD_eq_getElem?_getD]
  cases h : a[k]? with
  | none => simp
  | some d => exact ha d (List.mem_of_getElem? h)
theorem val_append (a b : List Nat) : val (a ++ b) = val a + pw a.length * val b := by
  induction a with
  | nil => simp [val, pw]
  | cons d l ih => simp only [List.cons_append, val, ih, List.length_cons, pw_succ]; rw [Nat.mul_add, Nat.mul_assoc, Nat.add_assoc]
theorem val_snoc (a : List Nat) (d : Nat) : val (a ++ [d]) = val a + d * pw a.length := by
  rw [val_append]; simp [val, Nat.mul_comm]
theorem val_lt {a : List Nat} (h : Dig a) : val a < pw a.length := by
  induction a with
  | nil => simp [val, pw]
  | cons d l ih =>
    have h1 := h d (by simp)
    have h2 := ih (fun x hx => h x (by simp [hx]))
    simp only [val, List.length_cons, pw_succ]; omega
theorem val_take_succ (a : List Nat) (k : Nat) : val (a.take (k + 1)) = val (a.take k) + a.getD k 0 * pw k := by
  by_cases h : k < a.length
  · rw [List.take_succ_eq_append_getElem h, val_snoc, List.length_take, Nat.min_eq_left (by omega)]
    simp [List.getD_eq_getElem?_getD, h]
  · rw [List.take_of_length_le (by omega), List.take_of_length_le (by omega)]
    simp [List.getD_eq_getElem?_getD, List.getElem?_eq_none (Nat.not_lt.1 h)]
theorem Norm.nil : Norm [] := ⟨Dig.nil, by simp⟩
theorem Norm.ne {a : List Nat} (h : Norm a) (hn : a ≠ []) : pw (a.length - 1) ≤ val a := by
  rcases List.eq_nil_or_concat a with rfl | ⟨l, d, rfl⟩
  · exact absurd rfl hn
  · have := h.2 d (by simp)
    simp only [List.concat_eq_append, val_snoc, List.length_append, List.length_singleton, Nat.add_sub_cancel]
    have : 1 * pw l.length ≤ d * pw l.length := Nat.mul_le_mul_right _ (by omega)
    omega
theorem Norm.nil_iff {a : List Nat} (h : Norm a) : a = [] ↔ val a = 0 := by
  constructor
  · rintro rfl; rfl
  · intro h0
    apply Classical.byContradiction; intro hn
    have := h.ne hn
    have := pw_pos (a.length - 1)
    omega
theorem Norm.length_le {a : List Nat} (h : Norm a) {k : Nat} (hv : val a < pw k) : a.length ≤ k := by
  apply Classical.byContradiction; intro hk
  have hn : a ≠ [] := by rintro rfl; simp at hk
  have h1 := h.ne hn
  have h2 := pw_mono (a := k) (b := a.length - 1) (by omega)
  omega
theorem Norm.length_lt_val {a b : List Nat} (ha : Norm a) (hb : Norm b) (h : a.length < b.length) : val a < val b := by
  have h1 := val_lt ha.1
  have hn : b ≠ [] := by rintro rfl; simp at h
  have h2 := hb.ne hn
  have h3 := pw_mono (a := a.length) (b := b.length - 1) (by omega)
  omega
theorem dig_inj : ∀ {a b : List Nat}, Dig a → Dig b → a.length = b.length → val a = val b → a = b
  | [], [], _, _, _, _ => rfl
  | [], _ :: _, _, _, h, _ => by simp at h
  | _ :: _, [], _, _, h, _ => by simp at h
  | x :: a, y :: b, ha, hb, hl, hv => by
    have h1 := ha x (by simp)
    have h2 := hb y (by simp)
    simp only [val] at hv
    have e : x = y := by omega
    have e2 : val a = val b := by omega
    rw [e, dig_inj (fun d h => ha d (by simp [h])) (fun d h => hb d (by simp [h])) (by simpa using hl) e2]
theorem Norm.inj {a b : List Nat} (ha : Norm a) (hb : Norm b) (h : val a = val b) : a = b := by
  apply dig_inj ha.1 hb.1 ?_ h
  rcases Nat.lt_trichotomy a.length b.length with g | g | g
  · have := ha.length_lt_val hb g; omega
  · exact g
  · have := hb.length_lt_val ha g; omega
/-- trim: without noughts above -/
def trim (l : List Nat) : List Nat := (l.reverse.dropWhile (· == 0)).reverse
theorem trim_nil : trim [] = [] := rfl
theorem trim_snoc0 (l : List Nat) : trim (l ++ [0]) = trim l := by simp [trim]
theorem trim_snoc (l : List Nat) (d : Nat) (h : d ≠ 0) : trim (l ++ [d]) = l ++ [d] := by
  have : (d == 0) = false := by simp [h]
  simp [trim, this]
theorem trim_take_succ (l : List Nat) (k : Nat) (hk : k < l.length) (h0 : l.getD k 0 = 0) : trim (l.take (k + 1)) = trim (l.take k) := by
  rw [List.take_succ_eq_append_getElem hk]
  have : l[k] = 0 := by simpa [List.getD_eq_getElem?_getD, hk] using h0
  rw [this, trim_snoc0]
theorem trim_take_stop (l : List Nat) (k : Nat) (hk : k < l.length) (h0 : l.getD k 0 ≠ 0) : trim (l.take (k + 1)) = l.take (k + 1) := by
  rw [List.take_succ_eq_append_getElem hk]
  have : l[k] ≠ 0 := by simpa [List.getD_eq_getElem?_getD, hk] using h0
  rw [trim_snoc _ _ this]
theorem trim_spec (l : List Nat) (h : Dig l) : Norm (trim l) ∧ val (trim l) = val l ∧ (trim l).length ≤ l.length := by
  rcases List.eq_nil_or_concat l with rfl | ⟨a, d, rfl⟩
  · exact ⟨Norm.nil, rfl, by simp [trim]⟩
  · simp only [List.concat_eq_append] at h ⊢
    by_cases hd : d = 0
    · subst hd
      rw [trim_snoc0]
      have := trim_spec a (fun x hx => h x (by simp [hx]))
      refine ⟨this.1, by rw [this.2.1, val_snoc]; simp, ?_⟩
      have h3 := this.2.2
      simp only [List.length_append, List.length_singleton]; omega
    · rw [trim_snoc _ _ hd]
      exact ⟨⟨h, fun x hx => by simp at hx; omega⟩, rfl, Nat.le_refl _⟩
termination_by l.length
/-- one step of a sum of digits -/
theorem add_step (out a b : List Nat) (i carry : Nat) (hl : out.length = i) (hinv : val out + carry * pw i = val (a.take i) + val (b.take i)) :
    val (out ++ [(carry + a.getD i 0 + b.getD i 0) % 65536]) + (carry + a.getD i 0 + b.getD i 0) / 65536 * pw (i + 1) = val (a.take (i + 1)) + val (b.take (i + 1)) := by
  rw [val_snoc, hl, val_take_succ, val_take_succ, pw_succ]
  generalize a.getD i 0 = x at *
  generalize b.getD i 0 = y at *
  generalize pw i = P at *
  have h1 : (carry + x + y) % 65536 * P + (carry + x + y) / 65536 * (65536 * P) = (carry + x + y) * P := by
    rw [← Nat.mul_assoc, ← Nat.add_mul]; congr 1; omega
  have h2 : (carry + x + y) * P = carry * P + x * P + y * P := by rw [Nat.add_mul, Nat.add_mul]
  omega
/-- one step of a difference of digits -/
theorem sub_step (out a b : List Nat) (i borrow : Nat) (hb : borrow ≤ 1) (ha : Dig a) (hbd : Dig b) (hl : out.length = i) (hinv : val out + val (b.take i) = val (a.take i) + borrow * pw i) :
    val (out ++ [(65536 + a.getD i 0 - borrow - b.getD i 0) % 65536]) + val (b.take (i + 1)) = val (a.take (i + 1)) + (1 - (65536 + a.getD i 0 - borrow - b.getD i 0) / 65536) * pw (i + 1) := by
  have hx := ha.getD i
  have hy := hbd.getD i
  rw [val_snoc, hl, val_take_succ, val_take_succ, pw_succ]
  generalize a.getD i 0 = x at *
  generalize b.getD i 0 = y at *
  generalize pw i = P at *
  have hv : (65536 + x - borrow - y) / 65536 ≤ 1 := by omega
  have h1 : (65536 + x - borrow - y) % 65536 * P + y * P + borrow * P = x * P + (1 - (65536 + x - borrow - y) / 65536) * (65536 * P) := by
    rw [← Nat.mul_assoc, ← Nat.add_mul, ← Nat.add_mul, ← Nat.add_mul]; congr 1; omega
  omega
/-- digits are compared from the highest on -/
theorem cmp_lt (a b : List Nat) (i : Nat) (ha : Dig a) (hl : a.length = b.length) (hi : i < a.length) (he : a.drop (i + 1) = b.drop (i + 1)) (hlt : a.getD i 0 < b.getD i 0) : val a < val b := by
  have e1 : val a = val (a.take (i + 1)) + pw (i + 1) * val (a.drop (i + 1)) := by
    conv => lhs; rw [← List.take_append_drop (i + 1) a]
    rw [val_append, List.length_take, Nat.min_eq_left (by omega)]
  have e2 : val b = val (b.take (i + 1)) + pw (i + 1) * val (b.drop (i + 1)) := by
    conv => lhs; rw [← List.take_append_drop (i + 1) b]
    rw [val_append, List.length_take, Nat.min_eq_left (by omega)]
  rw [e1, e2, he, val_take_succ, val_take_succ]
  have h1 := val_lt (ha.take i)
  rw [List.length_take, Nat.min_eq_left (by omega)] at h1
  have h3 : (a.getD i 0 + 1) * pw i ≤ b.getD i 0 * pw i := Nat.mul_le_mul_right _ (by omega)
  rw [Nat.add_mul] at h3
  omega
end Go.Big
namespace Go.Big
theorem val_digit (a : List Nat) (j : Nat) (ha : Dig a) : val a / pw j % 65536 = a.getD j 0 := by
  induction a generalizing j with
  | nil => simp [val]
  | cons d l ih =>
    have hd := ha d (by simp)
    have hl : Dig l := fun x hx => ha x (by simp [hx])
    cases j with
    | zero => simp [val, pw]; omega
    | succ j =>
      rw [pw_succ, ← Nat.div_div_eq_div_mul]
      have : val (d :: l) / 65536 = val l := by simp only [val]; omega
      rw [this, ih j hl]; simp
theorem val_bit (a : List Nat) (i : Nat) (ha : Dig a) : val a / 2 ^ i % 2 = a.getD (i / 16) 0 / 2 ^ (i % 16) % 2 := by
  have e : (2 : Nat) ^ i = pw (i / 16) * 2 ^ (i % 16) := by
    unfold pw
    rw [show (65536 : Nat) = 2 ^ 16 from rfl, ← Nat.pow_mul, ← Nat.pow_add]; congr 1; omega
  rw [e, ← Nat.div_div_eq_div_mul, ← val_digit a (i / 16) ha]
  generalize val a / pw (i / 16) = n
  have hk : i % 16 < 16 := Nat.mod_lt _ (by omega)
  generalize i % 16 = k at hk
  have h2 : (65536 : Nat) = 2 ^ k * 2 ^ (16 - k) := by rw [← Nat.pow_add, show k + (16 - k) = 16 from by omega]
  have h3 : (2:Nat) ^ (16 - k) = 2 * 2 ^ (15 - k) := by rw [show 16 - k = (15 - k) + 1 from by omega, Nat.pow_succ, Nat.mul_comm]
  have h4 : n % 65536 / 2 ^ k = n / 2 ^ k % 2 ^ (16 - k) := by rw [h2, Nat.mod_mul_right_div_self]
  rw [h4, h3, Nat.mod_mul_right_mod]
/-- A digit of the quotient is raised. -/
theorem val_set (q : List Nat) (j x : Nat) (hj : j < q.length) : val (q.set j (q.getD j 0 + x)) = val q + x * pw j := by
  induction q generalizing j with
  | nil => simp at hj
  | cons d l ih =>
    cases j with
    | zero => simp [val, pw]; omega
    | succ j =>
      have := ih j (by simpa using hj)
      have e : (d :: l).getD (j + 1) 0 = l.getD j 0 := by simp
      rw [e]
      simp only [List.set_cons_succ, val, this, pw_succ]
      rw [Nat.mul_add, Nat.mul_left_comm 65536 x]; omega
/-- What stands before round i (i + 1 bits are still to come): the quotient of the bits above, the rest. -/
theorem div_step (A b i : Nat) (hb : 0 < b) (left q : Nat) (hleft : left = A / 2 ^ (i + 1) % b) (hq : q = A / 2 ^ (i + 1) / b * 2 ^ (i + 1)) :
    let l2 := 2 * left + A / 2 ^ i % 2
    (b ≤ l2 → l2 - b = A / 2 ^ i % b ∧ q + 2 ^ i = A / 2 ^ i / b * 2 ^ i) ∧ (l2 < b → l2 = A / 2 ^ i % b ∧ q = A / 2 ^ i / b * 2 ^ i) := by
  intro l2
  have hl : l2 = 2 * left + A / 2 ^ i % 2 := rfl
  clear_value l2
  have e1 : A / 2 ^ (i + 1) = A / 2 ^ i / 2 := by rw [Nat.pow_succ, Nat.div_div_eq_div_mul]
  rw [e1] at hleft hq
  have e2 : (2:Nat) ^ (i + 1) = 2 * 2 ^ i := by rw [Nat.pow_succ, Nat.mul_comm]
  rw [e2] at hq
  generalize A / 2 ^ i = N at *
  generalize (2:Nat) ^ i = P at *
  have hN : N = 2 * (N / 2) + N % 2 := by omega
  have hd := Nat.div_add_mod (N / 2) b
  have hlt := Nat.mod_lt (N / 2) hb
  have hl2 : l2 = 2 * (N / 2 % b) + N % 2 := by rw [hl, hleft]
  generalize N / 2 / b = d at *
  generalize N / 2 % b = r at *
  have hNb : N = b * (2 * d) + l2 := by rw [Nat.mul_left_comm]; omega
  constructor
  · intro h
    have h2 : l2 - b < b := by omega
    have hNb' : N = b * (2 * d + 1) + (l2 - b) := by rw [Nat.mul_add]; omega
    have hdiv : N / b = 2 * d + 1 := by rw [hNb', Nat.mul_add_div hb, Nat.div_eq_of_lt h2]
    have hmod : N % b = l2 - b := by rw [hNb', Nat.mul_add_mod, Nat.mod_eq_of_lt h2]
    refine ⟨hmod.symm, ?_⟩
    rw [hdiv, hq, Nat.add_mul]
    have : d * (2 * P) = 2 * d * P := by rw [← Nat.mul_assoc, Nat.mul_comm d 2]
    omega
  · intro h
    have hdiv : N / b = 2 * d := by rw [hNb, Nat.mul_add_div hb, Nat.div_eq_of_lt h, Nat.add_zero]
    have hmod : N % b = l2 := by rw [hNb, Nat.mul_add_mod, Nat.mod_eq_of_lt h]
    refine ⟨hmod.symm, ?_⟩
    rw [hdiv, hq]
    rw [← Nat.mul_assoc, Nat.mul_comm d 2]
/-- The quotient's digits while bits come in from above: digit i / 16 has only bits from i % 16 + 1 on, and all lower digits are nought. -/
def Bits (q : List Nat) (i : Nat) : Prop := Dig q ∧ (∀ j, j < i / 16 → q.getD j 0 = 0) ∧ q.getD (i / 16) 0 % 2 ^ (i % 16) = 0
theorem Bits.start (n : Nat) (i : Nat) : Bits (List.replicate n 0) i := by
  have h0 : ∀ j, (List.replicate n 0).getD j 0 = 0 := by
    intro j; rw [List.getD_eq_getElem?_getD, List.getElem?_replicate]; split <;> rfl
  refine ⟨fun d h => by have := List.eq_of_mem_replicate h; omega, fun j _ => h0 j, by rw [h0]; exact Nat.zero_mod _⟩
theorem getD_set (q : List Nat) (j k x : Nat) (hj : j < q.length) : (q.set j x).getD k 0 = if k = j then x else q.getD k 0 := by
  rw [List.getD_eq_getElem?_getD, List.getElem?_set]
  by_cases h : j = k
  · subst h; simp [hj]
  · rw [if_neg h, if_neg (fun e => h e.symm), List.getD_eq_getElem?_getD]
theorem Bits.down (q : List Nat) (i : Nat) (h : Bits q (i + 1)) : Bits q i := by
  obtain ⟨h1, h2, h3⟩ := h
  by_cases e : (i + 1) % 16 = 0
  · have e1 : (i + 1) / 16 = i / 16 + 1 := by omega
    rw [e1] at h2 h3
    refine ⟨h1, fun j hj => h2 j (by omega), by rw [h2 _ (by omega)]; exact Nat.zero_mod _⟩
  · have e1 : (i + 1) / 16 = i / 16 := by omega
    have e2 : (i + 1) % 16 = i % 16 + 1 := by omega
    rw [e1] at h2 h3
    rw [e2, Nat.pow_succ] at h3
    refine ⟨h1, h2, ?_⟩
    have := Nat.mod_mul_right_mod (q.getD (i / 16) 0) (2 ^ (i % 16)) 2
    rw [h3] at this; rw [← this]; exact Nat.zero_mod _
theorem dig_room (x k : Nat) (hk : k < 16) (hx : x < 65536) (hm : x % 2 ^ (k + 1) = 0) : x + 2 ^ k < 65536 ∧ (x + 2 ^ k) % 2 ^ k = 0 := by
  have h2 : (65536 : Nat) = 2 ^ (k + 1) * 2 ^ (15 - k) := by rw [← Nat.pow_add, show k + 1 + (15 - k) = 16 from by omega]
  have hp : 0 < (2:Nat) ^ k := Nat.pow_pos (by omega)
  have hs : (2:Nat) ^ (k + 1) = 2 * 2 ^ k := by rw [Nat.pow_succ, Nat.mul_comm]
  obtain ⟨c, hc⟩ := Nat.dvd_of_mod_eq_zero hm
  have hc2 : c < 2 ^ (15 - k) := by
    rw [h2, hc] at hx
    exact Nat.lt_of_mul_lt_mul_left hx
  have h4 : 2 ^ (k + 1) * (c + 1) ≤ 65536 := by rw [h2]; exact Nat.mul_le_mul_left _ (by omega)
  rw [Nat.mul_add, ← hc, hs] at h4
  refine ⟨by omega, ?_⟩
  rw [hc, hs, Nat.mul_right_comm, Nat.mul_comm (2 * c), ]
  rw [Nat.add_mod_right, Nat.mul_mod_right]
theorem Bits.set_ (q : List Nat) (i : Nat) (h : Bits q (i + 1)) (hi : i / 16 < q.length) :
    Bits (q.set (i / 16) (q.getD (i / 16) 0 + 2 ^ (i % 16))) i ∧ q.getD (i / 16) 0 + 2 ^ (i % 16) < 65536 := by
  have hz : q.getD (i / 16) 0 % 2 ^ (i % 16 + 1) = 0 := by
    obtain ⟨h1, h2, h3⟩ := h
    by_cases e : (i + 1) % 16 = 0
    · have e1 : (i + 1) / 16 = i / 16 + 1 := by omega
      rw [e1] at h2
      rw [h2 _ (by omega)]; exact Nat.zero_mod _
    · have e1 : (i + 1) / 16 = i / 16 := by omega
      have e2 : (i + 1) % 16 = i % 16 + 1 := by omega
      rw [e1, e2] at h3; exact h3
  have hd := dig_room _ _ (Nat.mod_lt i (by omega)) (h.1.getD (i / 16)) hz
  have hdown := h.down
  refine ⟨⟨?_, ?_, ?_⟩, hd.1⟩
  · intro d hm
    rcases List.mem_or_eq_of_mem_set hm with hm | rfl
    · exact h.1 d hm
    · exact hd.1
  · intro j hj
    rw [getD_set _ _ _ _ hi, if_neg (by omega)]
    exact hdown.2.1 j hj
  · rw [getD_set _ _ _ _ hi, if_pos rfl]; exact hd.2
theorem set_val (q : List Nat) (i : Nat) (hi : i / 16 < q.length) : val (q.set (i / 16) (q.getD (i / 16) 0 + 2 ^ (i % 16))) = val q + 2 ^ i := by
  rw [val_set _ _ _ hi]
  congr 1
  unfold pw
  rw [show (65536 : Nat) = 2 ^ 16 from rfl, ← Nat.pow_mul, ← Nat.pow_add]; congr 1; omega
theorem val_zero (n : Nat) : val (List.replicate n 0) = 0 := by
  induction n with
  | zero => rfl
  | succ n ih => simp [List.replicate_succ, val, ih]
end Go.Big
