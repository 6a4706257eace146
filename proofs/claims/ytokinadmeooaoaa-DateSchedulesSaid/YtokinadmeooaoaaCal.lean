namespace Cal
def lp (y : Int) : Int := if y % 4 = 0 ∧ (y % 100 ≠ 0 ∨ y % 400 = 0) then 1 else 0
def dim (y m : Int) : Int := if m = 2 then 28 + lp y else if m = 4 ∨ m = 6 ∨ m = 9 ∨ m = 11 then 30 else if 1 ≤ m ∧ m ≤ 12 then 31 else 0
def dby (y : Int) : Int := 365 * (y - 1970) + ((y - 1) / 4 - 492) - ((y - 1) / 100 - 19) + ((y - 1) / 400 - 4)
def cum (y m : Int) : Int :=
  if m ≤ 1 then 0 else if m = 2 then 31 else
  (if m = 3 then 59 else if m = 4 then 90 else if m = 5 then 120 else if m = 6 then 151 else if m = 7 then 181 else if m = 8 then 212 else if m = 9 then 243
    else if m = 10 then 273 else if m = 11 then 304 else if m = 12 then 334 else 365) + lp y
def num (y m d : Int) : Int := dby y + cum y m + d - 1
def vld (y m d : Int) : Prop := 1970 ≤ y ∧ y ≤ 9999 ∧ 1 ≤ m ∧ m ≤ 12 ∧ 1 ≤ d ∧ d ≤ dim y m
instance (y m d : Int) : Decidable (vld y m d) := by unfold vld; infer_instance

theorem lp_01 (y : Int) : 0 ≤ lp y ∧ lp y ≤ 1 := by unfold lp; split <;> omega
theorem dby_succ (y : Int) : dby (y + 1) = dby y + 365 + lp y := by
  unfold dby lp; split <;> omega
theorem dby_1970 : dby 1970 = 0 := by decide
theorem dby_10000 : dby 10000 = 2932897 := by decide
theorem dby_mono (a b : Int) (h : a ≤ b) : dby a ≤ dby b := by unfold dby; omega
theorem dby_lt (a b : Int) (h : a < b) : dby a + 365 + lp a ≤ dby b := by
  have := dby_mono (a + 1) b (by omega); rw [dby_succ] at this; exact this
theorem cum_succ (y m : Int) (h1 : 1 ≤ m) (h2 : m ≤ 12) : cum y (m + 1) = cum y m + dim y m := by
  have : m = 1 ∨ m = 2 ∨ m = 3 ∨ m = 4 ∨ m = 5 ∨ m = 6 ∨ m = 7 ∨ m = 8 ∨ m = 9 ∨ m = 10 ∨ m = 11 ∨ m = 12 := by omega
  rcases this with rfl | rfl | rfl | rfl | rfl | rfl | rfl | rfl | rfl | rfl | rfl | rfl <;> simp [cum, dim] <;> omega
theorem cum_1 (y : Int) : cum y 1 = 0 := by simp [cum]
theorem cum_13 (y : Int) : cum y 13 = 365 + lp y := by simp [cum]
theorem dim_bd (y m : Int) (h1 : 1 ≤ m) (h2 : m ≤ 12) : 28 ≤ dim y m ∧ dim y m ≤ 31 := by
  have := lp_01 y
  unfold dim; split <;> (try split) <;> (try split) <;> omega
theorem dim_le (y m : Int) : 0 ≤ dim y m ∧ dim y m ≤ 31 := by
  have := lp_01 y
  unfold dim; split <;> (try split) <;> (try split) <;> omega
theorem dim_out (y m : Int) (h : ¬ (1 ≤ m ∧ m ≤ 12)) : dim y m = 0 := by
  unfold dim; split <;> (try split) <;> (try split) <;> omega
theorem cum_bd (y m : Int) (h1 : 1 ≤ m) (h2 : m ≤ 12) : 0 ≤ cum y m ∧ cum y m + dim y m ≤ 365 + lp y := by
  have := lp_01 y
  have : m = 1 ∨ m = 2 ∨ m = 3 ∨ m = 4 ∨ m = 5 ∨ m = 6 ∨ m = 7 ∨ m = 8 ∨ m = 9 ∨ m = 10 ∨ m = 11 ∨ m = 12 := by omega
  rcases this with rfl | rfl | rfl | rfl | rfl | rfl | rfl | rfl | rfl | rfl | rfl | rfl <;> simp [cum, dim] <;> omega
theorem num_bd (y m d : Int) (h : vld y m d) : dby y ≤ num y m d ∧ num y m d < dby (y + 1) := by
  obtain ⟨_, _, h3, h4, h5, h6⟩ := h
  have := cum_bd y m h3 h4
  rw [dby_succ]; unfold num; omega
theorem num_range (y m d : Int) (h : vld y m d) : 0 ≤ num y m d ∧ num y m d ≤ 2932896 := by
  have h1 := num_bd y m d h
  have h2 := dby_mono 1970 y h.1
  have h3 := dby_mono (y + 1) 10000 (by have := h.2.1; omega)
  rw [dby_1970] at h2; rw [dby_10000] at h3; omega
theorem cum_lt (y a b : Int) (h1 : 1 ≤ a) (h : a < b) (h2 : b ≤ 12) : cum y a + dim y a ≤ cum y b := by
  have hl := lp_01 y
  have ha : a = 1 ∨ a = 2 ∨ a = 3 ∨ a = 4 ∨ a = 5 ∨ a = 6 ∨ a = 7 ∨ a = 8 ∨ a = 9 ∨ a = 10 ∨ a = 11 := by omega
  have hb : b = 2 ∨ b = 3 ∨ b = 4 ∨ b = 5 ∨ b = 6 ∨ b = 7 ∨ b = 8 ∨ b = 9 ∨ b = 10 ∨ b = 11 ∨ b = 12 := by omega
  rcases ha with rfl | rfl | rfl | rfl | rfl | rfl | rfl | rfl | rfl | rfl | rfl <;>
  rcases hb with rfl | rfl | rfl | rfl | rfl | rfl | rfl | rfl | rfl | rfl | rfl <;> first | (exfalso; omega) | (simp [cum, dim]; done) | (simp [cum, dim]; omega)
theorem num_inj (y m d y' m' d' : Int) (h : vld y m d) (h' : vld y' m' d') (e : num y m d = num y' m' d') : y = y' ∧ m = m' ∧ d = d' := by
  have b := num_bd y m d h
  have b' := num_bd y' m' d' h'
  have hy : y = y' := by
    rcases Int.lt_trichotomy y y' with g | g | g
    · have := dby_mono (y + 1) y' (by omega); omega
    · exact g
    · have := dby_mono (y' + 1) y (by omega); omega
  subst hy
  obtain ⟨_, _, h3, h4, h5, h6⟩ := h
  obtain ⟨_, _, h3', h4', h5', h6'⟩ := h'
  unfold num at e
  have hm : m = m' := by
    rcases Int.lt_trichotomy m m' with g | g | g
    · have := cum_lt y m m' h3 g h4'; omega
    · exact g
    · have := cum_lt y m' m h3' g h4; omega
  subst hm
  exact ⟨rfl, rfl, by omega⟩
/-- the program's formula for a day -/
theorem of_late (y m d : Int) (hm : 3 ≤ m) (hm2 : m ≤ 12) :
    y / 400 * 146097 + (y % 400 * 365 + y % 400 / 4 - y % 400 / 100 + ((153 * (m - 3) + 2) / 5 + d - 1)) - 719468 = num y m d := by
  have : m = 3 ∨ m = 4 ∨ m = 5 ∨ m = 6 ∨ m = 7 ∨ m = 8 ∨ m = 9 ∨ m = 10 ∨ m = 11 ∨ m = 12 := by omega
  have hl : lp y = y / 4 - (y - 1) / 4 - (y / 100 - (y - 1) / 100) + (y / 400 - (y - 1) / 400) := by unfold lp; split <;> omega
  have hb : dby y + 59 + lp y = y / 400 * 146097 + (y % 400 * 365 + y % 400 / 4 - y % 400 / 100) - 719468 := by unfold dby; omega
  have hc : cum y m = (153 * (m - 3) + 2) / 5 + 59 + lp y := by
    rcases this with rfl | rfl | rfl | rfl | rfl | rfl | rfl | rfl | rfl | rfl <;> simp [cum]
  unfold num; omega
theorem of_early (y m d : Int) (hm : 1 ≤ m) (hm2 : m ≤ 2) :
    (y - 1) / 400 * 146097 + ((y - 1) % 400 * 365 + (y - 1) % 400 / 4 - (y - 1) % 400 / 100 + ((153 * (m - 3 + 12) + 2) / 5 + d - 1)) - 719468 = num y m d := by
  have hb : dby y = (y - 1) / 400 * 146097 + ((y - 1) % 400 * 365 + (y - 1) % 400 / 4 - (y - 1) % 400 / 100) + 306 - 719468 := by unfold dby; omega
  have : m = 1 ∨ m = 2 := by omega
  rcases this with rfl | rfl <;> simp [num, cum] <;> omega
theorem yoe_b (e q y b : Int) (hb0 : 0 ≤ b) (hb3 : b ≤ 3) (hl : 36524 * b ≤ e) (hu : e < 36524 * b + 36524) (hq : q = e / 1460) (hy : y = (e - q + b) / 365) :
    100 * b ≤ y ∧ y ≤ 100 * b + 99 ∧ y / 100 = b ∧ y / 4 ≤ q ∧ q ≤ (y + 1) / 4 ∧ 365 * y ≤ e - q + b ∧ e - q + b < 365 * y + 365 := by
  have h1 : 1460 * q ≤ e := by omega
  have h2 : e < 1460 * q + 1460 := by omega
  have h3 : 365 * y ≤ e - q + b := by omega
  have h4 : e - q + b < 365 * y + 365 := by omega
  clear hq hy
  have hqb : 25 * b ≤ q := by omega
  have hqb2 : q ≤ 25 * b + 25 := by omega
  have h5 : 100 * b ≤ y := by omega
  have h6 : y ≤ 100 * b + 99 := by omega
  refine ⟨h5, h6, by omega, ?_, ?_, h3, h4⟩ <;> omega
theorem yoe (e : Int) (h0 : 0 ≤ e) (h1 : e ≤ 146096) (y : Int) (hy : y = (e - e/1460 + e/36524 - e/146096) / 365) :
    0 ≤ y ∧ y ≤ 399 ∧ 365*y + y/4 - y/100 ≤ e ∧ (e < 365*(y+1) + (y+1)/4 - (y+1)/100 ∨ y = 399) := by
  by_cases hc : e = 146096
  · subst hc; simp at hy; subst hy; decide
  · have hc' : e / 146096 = 0 := by omega
    have hb : e / 36524 = 0 ∨ e / 36524 = 1 ∨ e / 36524 = 2 ∨ e / 36524 = 3 := by omega
    rw [hc'] at hy
    have := yoe_b e (e/1460) y (e/36524) (by omega) (by omega) (by omega) (by omega) rfl (by rw [hy]; congr 1; omega)
    omega
/-- the program's formula for a year, a month and a day -/
def cz (n : Int) : Int := n + 719468
def ce (n : Int) : Int := cz n % 146097
def cy (n : Int) : Int := (ce n - ce n / 1460 + ce n / 36524 - ce n / 146096) / 365
def ci (n : Int) : Int := ce n - (365 * cy n + cy n / 4 - cy n / 100)
def cm (n : Int) : Int := (5 * ci n + 2) / 153
def cd (n : Int) : Int := ci n - (153 * cm n + 2) / 5 + 1
def cyr (n : Int) : Int := cz n / 146097 * 400 + cy n
def Y (n : Int) : Int := if 10 ≤ cm n then cyr n + 1 else cyr n
def M (n : Int) : Int := if 10 ≤ cm n then cm n - 9 else cm n + 3
def D (n : Int) : Int := cd n
theorem civil_ok (n : Int) (h0 : 0 ≤ n) (h1 : n ≤ 2932896) : vld (Y n) (M n) (D n) ∧ num (Y n) (M n) (D n) = n := by
  have hz : cz n = n + 719468 := rfl
  have he : ce n = cz n % 146097 := rfl
  have hy := yoe (ce n) (by omega) (by omega) (cy n) rfl
  have hi : ci n = ce n - (365 * cy n + cy n / 4 - cy n / 100) := rfl
  have hm : cm n = (5 * ci n + 2) / 153 := rfl
  have hd : cd n = ci n - (153 * cm n + 2) / 5 + 1 := rfl
  have hyr : cyr n = cz n / 146097 * 400 + cy n := rfl
  have hib : 0 ≤ ci n ∧ ci n ≤ 365 := by omega
  have hlp : ci n = 365 → lp (cyr n + 1) = 1 := by
    intro h
    have g : (cyr n + 1) % 4 = 0 ∧ ((cyr n + 1) % 100 ≠ 0 ∨ (cyr n + 1) % 400 = 0) := by
      rcases hy.2.2.2 with g | g
      · have g0 : cy n / 4 - cy n / 100 < (cy n + 1) / 4 - (cy n + 1) / 100 := by omega
        have g0' : cy n / 100 ≤ (cy n + 1) / 100 := by omega
        have g4 : (cy n + 1) % 4 = 0 := by
          have k1 : cy n / 4 < (cy n + 1) / 4 := by omega
          clear g0 g0' g h hib hi he hz hm hd hyr hy
          omega
        have g1 : (cy n + 1) % 100 ≠ 0 := by
          intro k
          have k1 : (cy n + 1) / 100 = cy n / 100 + 1 := by omega
          have k2 : (cy n + 1) / 4 ≤ cy n / 4 + 1 := by omega
          omega
        exact ⟨by omega, .inl (by omega)⟩
      · exact ⟨by omega, .inr (by omega)⟩
    unfold lp; rw [if_pos g]
  have hcm : 0 ≤ cm n ∧ cm n ≤ 11 := by omega
  have q0 : cyr n / 400 = cz n / 146097 := by omega
  have q1 : cyr n % 400 = cy n := by omega
  have hN : n = cyr n / 400 * 146097 + (cyr n % 400 * 365 + cyr n % 400 / 4 - cyr n % 400 / 100 + ci n) - 719468 := by
    rw [q0, q1]; omega
  have hyl : 1969 ≤ cyr n ∧ cyr n ≤ 9999 := by omega
  have hlp' := lp_01 (cyr n + 1)
  have hcd : cd n = ci n - (153 * cm n + 2) / 5 + 1 := hd
  by_cases hc : 10 ≤ cm n
  · have hYe : Y n = cyr n + 1 := by unfold Y; rw [if_pos hc]
    have hMe : M n = cm n - 9 := by unfold M; rw [if_pos hc]
    have hDe : D n = cd n := rfl
    have hyl2 : cyr n + 1 ≤ 9999 := by omega
    have hdim : cd n ≤ dim (cyr n + 1) (cm n - 9) := by
      have : cm n = 10 ∨ cm n = 11 := by omega
      rcases this with g | g <;> rw [g] at hd ⊢ <;> simp [dim] <;> rw [hd]
      · omega
      · by_cases h365 : ci n = 365
        · rw [hlp h365]; omega
        · omega
    have ho := of_early (cyr n + 1) (cm n - 9) (cd n) (by omega) (by omega)
    refine ⟨⟨by omega, by omega, by omega, by omega, by omega, by rw [hYe, hMe, hDe]; exact hdim⟩, ?_⟩
    rw [hYe, hMe, hDe, ← ho]
    have e1 : cyr n + 1 - 1 = cyr n := by omega
    have e2 : cm n - 9 - 3 + 12 = cm n := by omega
    rw [e1, e2]; omega
  · have hYe : Y n = cyr n := by unfold Y; rw [if_neg hc]
    have hMe : M n = cm n + 3 := by unfold M; rw [if_neg hc]
    have hDe : D n = cd n := rfl
    have hyl2 : 1970 ≤ cyr n := by omega
    have hdim : cd n ≤ dim (cyr n) (cm n + 3) := by
      have : cm n = 0 ∨ cm n = 1 ∨ cm n = 2 ∨ cm n = 3 ∨ cm n = 4 ∨ cm n = 5 ∨ cm n = 6 ∨ cm n = 7 ∨ cm n = 8 ∨ cm n = 9 := by omega
      rcases this with g | g | g | g | g | g | g | g | g | g <;> rw [g] at hd ⊢ <;> simp [dim] <;> rw [hd] <;> omega
    have ho := of_late (cyr n) (cm n + 3) (cd n) (by omega) (by omega)
    refine ⟨⟨by omega, by omega, by omega, by omega, by omega, by rw [hYe, hMe, hDe]; exact hdim⟩, ?_⟩
    rw [hYe, hMe, hDe, ← ho]
    have e2 : cm n + 3 - 3 = cm n := by omega
    rw [e2]; omega
theorem civil_uniq (n y m d : Int) (h : vld y m d) (e : num y m d = n) : Y n = y ∧ M n = m ∧ D n = d := by
  have r := num_range y m d h
  have c := civil_ok n (by omega) (by omega)
  exact num_inj _ _ _ _ _ _ c.1 h (by rw [c.2, e])
end Cal
