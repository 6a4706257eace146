/- A region that draws its order, whose loads are all behind them when operation n (an append) comes up: S, which tells what they read, is asked for till then alone. -/
import Derived.Deep.RegionHeld3
namespace Go.Proofs.Ytgbiimoednmlgaa
set_option linter.unusedVariables false
set_option linter.unusedSimpArgs false
open Go
variable {P : Program} {ops : Array Oper} {Q : Exit → Act → World → Prop} {md : Region.Mode} {S : World → Prop} {n : Nat} {l : Array Bool}
/-- In whatever order the rest comes up; S holds till n has come up. -/
def Till (P : Program) (md : Region.Mode) (ops : Array Oper) (Q : Exit → Act → World → Prop) (S : World → Prop) (n : Nat) : Nat → Array Bool → Act → World → Prop
  | 0, l, a, w => Region.ready md ops l = [] ∧ Q .normal a w
  | fuel + 1, l, a, w =>
    (Region.ready md ops l = [] → Q .normal a w) ∧
    ∀ i ∈ Region.ready md ops l, wpOp P ops Q i (fun a' w' => ((l.setIfInBounds i true).getD n true = true ∨ S w') ∧ Till P md ops Q S n fuel (l.setIfInBounds i true) a' w') a w
theorem any_of_till : ∀ (fuel : Nat) (l : Array Bool) (a : Act) (w : World), Till P md ops Q S n fuel l a w → wpAny P md ops Q fuel l a w
  | 0, _, _, _, h => h
  | fuel + 1, _, _, _, h => ⟨h.1, fun i hi => wpOp_mono (fun a' w' h' => any_of_till fuel _ a' w' h'.2) (h.2 i hi)⟩
theorem listed_stays {l : Array Bool} {i : Nat} (h : l.getD n true = true) : (l.setIfInBounds i true).getD n true = true := by
  by_cases hi : i = n
  · subst hi
    rcases Nat.lt_or_ge i l.size with h' | h'
    · simp [h']
    · simp [Array.getElem?_eq_none (by simpa using h')]
  · rw [getD_set_ne true hi]; exact h
/-- Behind n nothing is asked any more. -/
theorem till_of_any : ∀ (fuel : Nat) (l : Array Bool) (a : Act) (w : World), l.getD n true = true → wpAny P md ops Q fuel l a w → Till P md ops Q S n fuel l a w
  | 0, _, _, _, _, h => h
  | fuel + 1, _, _, _, hn, h => ⟨h.1, fun i hi => wpOp_mono (fun a' w' h' => ⟨.inl (listed_stays hn), till_of_any fuel _ a' w' (listed_stays hn) h'⟩) (h.2 i hi)⟩
/-- What has come up had all come up that it waits for. -/
def Clo (md : Region.Mode) (ops : Array Oper) (l : Array Bool) : Prop := ∀ j oj, ops[j]? = some oj → l.getD j true = true → ∀ e ∈ oj.after, Region.binds md e = true → l.getD e.on true = true
def cloB (md : Region.Mode) (ops : Array Oper) (l : Array Bool) : Bool := (List.range ops.size).all fun j => !l.getD j true || match ops[j]? with | some oj => oj.after.all (fun e => !Region.binds md e || l.getD e.on true) | none => true
theorem Clo.of (h : cloB md ops l = true) : Clo md ops l := by
  intro j oj hj hl e he hb
  simp only [cloB, List.all_eq_true, List.mem_range] at h
  have h1 := h j (Array.getElem?_eq_some_iff.1 hj).1
  simp only [hj, hl, Bool.not_true, Bool.false_or, Array.all_eq_true_iff_forall_mem] at h1
  have h2 := h1 e he
  simpa [hb] using h2
theorem getD_up {l : Array Bool} {j : Nat} (h : l.getD j false = true) : l.getD j true = true := by
  rcases Nat.lt_or_ge j l.size with h' | h'
  · simp [h'] at h ⊢; exact h
  · simp [Array.getElem?_eq_none h'] at h
theorem Clo.set {l : Array Bool} {i : Nat} (h : Clo md ops l) (hi : i ∈ Region.ready md ops l) : Clo md ops (l.setIfInBounds i true) := by
  obtain ⟨h0, oi, hoi, hall⟩ := mem_ready.1 hi
  intro j oj hj hl e he hb
  by_cases hij : i = j
  · subst hij
    rw [hoi] at hj
    injection hj with hj
    subst hj
    exact listed_stays (getD_up (hall e he hb))
  · rw [getD_set_ne true hij] at hl
    exact listed_stays (h j oj hj hl e he hb)
/-- Does operation n wait for operation i, through others perhaps? -/
def reach (md : Region.Mode) (ops : Array Oper) (i : Nat) : Nat → Nat → Bool
  | 0, _ => false
  | f + 1, n => match ops[n]? with | some o => o.after.any (fun e => Region.binds md e && (e.on == i || reach md ops i f e.on)) | none => false
theorem reach_spec {l : Array Bool} {i : Nat} (hc : Clo md ops l) : ∀ (f n : Nat), reach md ops i f n = true → (∀ o, ops[n]? = some o → ∀ e ∈ o.after, Region.binds md e = true → l.getD e.on true = true) → l.getD i true = true
  | 0, _, h, _ => by cases h
  | f + 1, n, h, hn => by
    unfold reach at h
    cases ho : ops[n]? with
    | none => rw [ho] at h; cases h
    | some o =>
      rw [ho] at h
      obtain ⟨e, he, hb⟩ := Array.any_eq_true'.1 h
      simp only [Bool.and_eq_true, Bool.or_eq_true, beq_iff_eq] at hb
      have hl := hn o ho e he hb.1
      rcases hb.2 with h1 | h1
      · rw [← h1]; exact hl
      · exact reach_spec hc f e.on h1 (fun o' ho' e' he' hb' => hc e.on o' ho' hl e' he' hb')
theorem till_first {i : Nat} {oi : Oper} {v : Value} (hi : ops[i]? = some oi) (hsel : ∀ (j : Nat) (o : Oper) cs b, ops[j]? = some o → o.op ≠ .select cs b)
    (hQ : ∀ c a w, Q (.panic c) (a.put oi.dst v) w → Q (.panic c) a w) (hin : i ≠ n)
    {f : Nat} (hwait : reach md ops i f n = true) :
    ∀ (fuel : Nat) (l : Array Bool) (a : Act) (w : World), Clo md ops l →
      (∀ j oj, ops[j]? = some oj → j ≠ i → l.getD j true = false → (∀ e ∈ oj.after, Region.binds md e = true → e.on ≠ i) → oi.apart ops oj = true) →
      i ∈ Region.ready md ops l → l.getD n true = false → YieldsIf P ops S oi v a → S w →
      Till P md ops Q S n fuel (l.setIfInBounds i true) (a.put oi.dst v) w → Till P md ops Q S n (fuel + 1) l a w := by
  intro fuel
  induction fuel with
  | zero =>
    intro l a w _ _ hr _ hy hS H
    refine ⟨fun h => (by rw [h] at hr; cases hr), fun j hj => ?_⟩
    by_cases hji : j = i
    · subst hji; exact hy.wpOp hi hS ⟨.inr hS, H⟩
    · have h := ready_mono hj hji
      rw [H.1] at h
      cases h
  | succ fuel ih =>
    intro l a w hclo hfree hr hnl hy hS H
    refine ⟨fun h => (by rw [h] at hr; cases hr), fun j hj => ?_⟩
    by_cases hji : j = i
    · subst hji; exact hy.wpOp hi hS ⟨.inr hS, H⟩
    · have h1 := H.2 j (ready_mono hj hji)
      obtain ⟨hjun, oj, hoj, hall⟩ := mem_ready.1 hj
      have hnot : ∀ e ∈ oj.after, Region.binds md e = true → e.on ≠ i := fun e he hb heq => by
        have g1 := hall e he hb
        have g0 := (mem_ready.1 hr).1
        rw [heq] at g1
        rcases Nat.lt_or_ge i l.size with h' | h'
        · simp [h'] at g0 g1; rw [g0] at g1; cases g1
        · simp [Array.getElem?_eq_none h'] at g1
      have hjn : j ≠ n := by
        rintro rfl
        have g1 := reach_spec hclo f j hwait (fun o ho e he hb => by rw [hoj] at ho; injection ho with ho; subst ho; exact getD_up (hall e he hb))
        rw [(mem_ready.1 hr).1] at g1
        cases g1
      have hnl2 : (l.setIfInBounds j true).getD n true = false := by rw [getD_set_ne true hjn]; exact hnl
      have hnl3 : ((l.setIfInBounds i true).setIfInBounds j true).getD n true = false := by rw [getD_set_ne true hjn, getD_set_ne true hin]; exact hnl
      have h2 := wpOp_putIf hoj (hfree j oj hoj hji hjun hnot) (fun cs b => hsel i oi cs b hi) (fun cs b => hsel j oj cs b hoj) hQ hy h1
      have hfree' : ∀ k ok, ops[k]? = some ok → k ≠ i → (l.setIfInBounds j true).getD k true = false →
          (∀ e ∈ ok.after, Region.binds md e = true → e.on ≠ i) → oi.apart ops ok = true := fun k ok hk hki hun hno => by
        refine hfree k ok hk hki ?_ hno
        by_cases hjk : j = k
        · subst hjk; exact hjun
        · rw [getD_set_ne true hjk] at hun; exact hun
      refine wpOp_mono (fun a' w' h3 => ?_) h2
      have hS' : S w' := h3.2.1.resolve_left (by rw [hnl3]; simp)
      refine ⟨.inr hS', ih (l.setIfInBounds j true) a' w' (hclo.set hj) hfree' (ready_mono hr (Ne.symm hji)) hnl2 h3.1 hS' ?_⟩
      rw [Array.setIfInBounds_comm _ _ hji]
      exact h3.2.2
/-- Operation i first: it yields v while S holds; operation n waits for it. -/
def takeB (md : Region.Mode) (ops : Array Oper) (n : Nat) (l : Array Bool) (i : Nat) : Bool :=
  Region.noSelect ops && Region.free md ops l i && (Region.ready md ops l).contains i && !(i == n) && reach md ops i ops.size n && !l.getD n true && cloB md ops l
theorem till_take {i : Nat} {oi : Oper} {v : Value} {fuel : Nat} {l : Array Bool} {a : Act} {w : World} (hi : ops[i]? = some oi) (hb : takeB md ops n l i = true)
    (hQ : ∀ c a w, Q (.panic c) (a.put oi.dst v) w → Q (.panic c) a w) (hy : YieldsIf P ops S oi v a) (hS : S w)
    (h : Till P md ops Q S n fuel (l.setIfInBounds i true) (a.put oi.dst v) w) : Till P md ops Q S n (fuel + 1) l a w := by
  simp only [takeB, Bool.and_eq_true, Bool.not_eq_true'] at hb
  obtain ⟨⟨⟨⟨⟨⟨h1, h2⟩, h3⟩, h4⟩, h5⟩, h6⟩, h7⟩ := hb
  exact till_first hi (Region.noSelect_spec h1) hQ (by simpa using h4) h5 fuel l a w (Clo.of h7) (Region.free_spec hi h2) (by simpa using h3) h6 hy hS h
/-- The same where nothing is asked of memory. -/
def anyB (md : Region.Mode) (ops : Array Oper) (l : Array Bool) (i : Nat) : Bool := Region.noSelect ops && Region.free md ops l i && (Region.ready md ops l).contains i
theorem any_take {i : Nat} {oi : Oper} {v : Value} {fuel : Nat} {l : Array Bool} {a : Act} {w : World} (hi : ops[i]? = some oi) (hb : anyB md ops l i = true)
    (hQ : ∀ c a w, Q (.panic c) (a.put oi.dst v) w → Q (.panic c) a w) (hy : Yields P ops oi v a)
    (h : wpAny P md ops Q fuel (l.setIfInBounds i true) (a.put oi.dst v) w) : wpAny P md ops Q (fuel + 1) l a w := by
  simp only [anyB, Bool.and_eq_true] at hb
  exact wpAny_take hi hb.1.1 hb.1.2 hb.2 hQ hy h
theorem any_two {i j : Nat} {oi oj : Oper} {fuel : Nat} {l : Array Bool} {a : Act} {w : World} (hr : Region.ready md ops l = [i, j]) (hoi : ops[i]? = some oi) (hoj : ops[j]? = some oj)
    (hi : ∀ K' : Act → World → Prop, Shut (∀ a w, wpAny P md ops Q fuel (l.setIfInBounds i true) a w → K' a w) → if Region.wanted oi (yielded ops a.tmps) = true then Oper.wp P oi a w K' Q else K' (a.put oi.dst undef) w)
    (hj : ∀ K' : Act → World → Prop, Shut (∀ a w, wpAny P md ops Q fuel (l.setIfInBounds j true) a w → K' a w) → if Region.wanted oj (yielded ops a.tmps) = true then Oper.wp P oj a w K' Q else K' (a.put oj.dst undef) w) :
    wpAny P md ops Q (fuel + 1) l a w := by
  refine wpAny_all hr (by simp) fun k hk => ?_
  rcases List.mem_cons.1 hk with rfl | hk
  · exact wpOp_step hoi fun K' hK => hi K' hK
  · rcases List.mem_cons.1 hk with rfl | hk
    · exact wpOp_step hoj fun K' hK => hj K' hK
    · cases hk
theorem any_one {i : Nat} {oi : Oper} {fuel : Nat} {l : Array Bool} {a : Act} {w : World} (hr : Region.ready md ops l = [i]) (hoi : ops[i]? = some oi)
    (hi : ∀ K' : Act → World → Prop, Shut (∀ a w, wpAny P md ops Q fuel (l.setIfInBounds i true) a w → K' a w) → if Region.wanted oi (yielded ops a.tmps) = true then Oper.wp P oi a w K' Q else K' (a.put oi.dst undef) w) :
    wpAny P md ops Q (fuel + 1) l a w := by
  refine wpAny_all hr (by simp) fun k hk => ?_
  rcases List.mem_cons.1 hk with rfl | hk
  · exact wpOp_step hoi fun K' hK => hi K' hK
  · cases hk
theorem till_all {rs : List Nat} {fuel : Nat} {l : Array Bool} {a : Act} {w : World} (hr : Region.ready md ops l = rs) (hne : rs ≠ [])
    (h : ∀ i ∈ rs, wpOp P ops Q i (fun a' w' => ((l.setIfInBounds i true).getD n true = true ∨ S w') ∧ Till P md ops Q S n fuel (l.setIfInBounds i true) a' w') a w) : Till P md ops Q S n (fuel + 1) l a w :=
  ⟨fun h0 => absurd (hr ▸ h0) hne, hr ▸ h⟩
theorem wp_region_till {id : Nat} {a : Act} {w : World} (n : Nat) (hm : P.follows .mixedOrders = true)
    (h : Till P .any ops Q S n ops.size (Array.replicate ops.size false) a w.drew) : (Code.region id ops true).wp P Q a w :=
  wp_region_any hm (any_of_till _ _ _ _ h)
/-- Two may come up: each is carried out; behind it S is shown, and the rest goes on. -/
theorem till_two {i j : Nat} {oi oj : Oper} {fuel : Nat} {l : Array Bool} {a : Act} {w : World} (hr : Region.ready md ops l = [i, j]) (hoi : ops[i]? = some oi) (hoj : ops[j]? = some oj)
    (hi : ∀ K' : Act → World → Prop, Shut (∀ a w, S w → Till P md ops Q S n fuel (l.setIfInBounds i true) a w → K' a w) → if Region.wanted oi (yielded ops a.tmps) = true then Oper.wp P oi a w K' Q else K' (a.put oi.dst undef) w)
    (hj : ∀ K' : Act → World → Prop, Shut (∀ a w, S w → Till P md ops Q S n fuel (l.setIfInBounds j true) a w → K' a w) → if Region.wanted oj (yielded ops a.tmps) = true then Oper.wp P oj a w K' Q else K' (a.put oj.dst undef) w) :
    Till P md ops Q S n (fuel + 1) l a w := by
  refine till_all hr (by simp) fun k hk => ?_
  rcases List.mem_cons.1 hk with rfl | hk
  · exact wpOp_step hoi fun K' hK => hi K' fun a w hS hT => hK a w ⟨.inr hS, hT⟩
  · rcases List.mem_cons.1 hk with rfl | hk
    · exact wpOp_step hoj fun K' hK => hj K' fun a w hS hT => hK a w ⟨.inr hS, hT⟩
    · cases hk
theorem till_one {i : Nat} {oi : Oper} {fuel : Nat} {l : Array Bool} {a : Act} {w : World} (hr : Region.ready md ops l = [i]) (hoi : ops[i]? = some oi)
    (hi : ∀ K' : Act → World → Prop, Shut (∀ a w, S w → Till P md ops Q S n fuel (l.setIfInBounds i true) a w → K' a w) → if Region.wanted oi (yielded ops a.tmps) = true then Oper.wp P oi a w K' Q else K' (a.put oi.dst undef) w) :
    Till P md ops Q S n (fuel + 1) l a w := by
  refine till_all hr (by simp) fun k hk => ?_
  rcases List.mem_cons.1 hk with rfl | hk
  · exact wpOp_step hoi fun K' hK => hi K' fun a w hS hT => hK a w ⟨.inr hS, hT⟩
  · cases hk
/-- n itself comes up, alone: behind it nothing is asked of the world. -/
theorem till_last {oi : Oper} {fuel : Nat} {l : Array Bool} {a : Act} {w : World} (hr : Region.ready md ops l = [n]) (hoi : ops[n]? = some oi) (hl : (l.setIfInBounds n true).getD n true = true)
    (hi : ∀ K' : Act → World → Prop, Shut (∀ a w, wpAny P md ops Q fuel (l.setIfInBounds n true) a w → K' a w) → if Region.wanted oi (yielded ops a.tmps) = true then Oper.wp P oi a w K' Q else K' (a.put oi.dst undef) w) :
    Till P md ops Q S n (fuel + 1) l a w := by
  refine till_all hr (by simp) fun k hk => ?_
  rcases List.mem_cons.1 hk with rfl | hk
  · exact wpOp_step hoi fun K' hK => hi K' fun a w hT => hK a w ⟨.inl hl, till_of_any _ _ _ _ hl hT⟩
  · cases hk
end Go.Proofs.Ytgbiimoednmlgaa
