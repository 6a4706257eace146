/- What comes to accounts; what Post gives: plain. -/
import Derived.Test.YtgbiimoednmlgaaLdP
namespace Go.Proofs.Ytgbiimoednmlgaa
set_option linter.unusedVariables false
set_option linter.unusedSimpArgs false
open Go.RowKit
/-- What has come to an account. -/
def tot (L : List (Ky × Int)) (k : Ky) : Int := ((L.filter (fun p => p.1 == k)).map (fun p => p.2)).sum
theorem tot_nil (k : Ky) : tot [] k = 0 := rfl
theorem tot_append (L M : List (Ky × Int)) (k : Ky) : tot (L ++ M) k = tot L k + tot M k := by
  unfold tot
  rw [List.filter_append, List.map_append, List.sum_append]
theorem tot_one (x : Ky) (n : Int) (k : Ky) : tot [(x, n)] k = if x = k then n else 0 := by
  unfold tot
  by_cases h : x = k
  · rw [if_pos h, List.filter_cons_of_pos (by simpa using h)]; simp
  · rw [if_neg h, List.filter_cons_of_neg (by simpa using h)]; rfl
theorem tot_none {L : List (Ky × Int)} {k : Ky} (h : ∀ p ∈ L, p.1 ≠ k) : tot L k = 0 := by
  unfold tot
  rw [List.filter_eq_nil_iff.2 (fun p hp => by simpa using h p hp)]; rfl
/-- Entries are what came. -/
structure LsE (es : List Ent) (L : List (Ky × Int)) : Prop where
  up : UpK Ent.key es
  sum : ∀ e ∈ es, e.all.sum = tot L e.key
  has : ∀ p ∈ L, ∃ e ∈ es, e.key = p.1
  of : ∀ e ∈ es, ∃ p ∈ L, p.1 = e.key
  rng : ∀ e ∈ es, ∀ n ∈ e.all, -9223372036854775808 ≤ n ∧ n ≤ 9223372036854775807
  len : es.length ≤ L.length ∧ ∀ e ∈ es, e.all.length ≤ L.length
theorem LsE.nil : LsE [] [] := ⟨List.Pairwise.nil, (fun _ h => nomatch h), (fun _ h => nomatch h), (fun _ h => nomatch h), (fun _ h => nomatch h), ⟨Nat.le_refl _, (fun _ h => nomatch h)⟩⟩
theorem insI_len (l : List Ent) (i : Nat) (x : Ent) (h : i ≤ l.length) : (insI l i x).length = l.length + 1 := by
  unfold insI
  rw [List.length_append, List.length_cons, List.length_take, List.length_drop, Nat.min_eq_left h]; omega
theorem mem_insI {l : List Ent} {i : Nat} {x y : Ent} : y ∈ insI l i x ↔ y = x ∨ y ∈ l := by
  unfold insI
  rw [List.mem_append, List.mem_cons]
  constructor
  · rintro (h | h | h)
    · exact .inr (List.mem_of_mem_take h)
    · exact .inl h
    · exact .inr (List.mem_of_mem_drop h)
  · rintro (h | h)
    · exact .inr (.inl h)
    · rw [← List.take_append_drop i l] at h
      rcases List.mem_append.1 h with h | h
      · exact .inl h
      · exact .inr (.inr h)
/-- A new account. -/
theorem LsE.new {es : List Ent} {L : List (Ky × Int)} (h : LsE es L) {i : Nat} {p c : ByteArray} {n : Int} {av : Value} (a : AtK Ent.key es (p.data.toList, c.data.toList) i) (hh : hitK Ent.key es (p.data.toList, c.data.toList) i = false) (hn : -9223372036854775808 ≤ n ∧ n ≤ 9223372036854775807) :
    LsE (insI es i ⟨p, c, [n], av⟩) (L ++ [((p.data.toList, c.data.toList), n)]) := by
  have hnk : ∀ e ∈ es, e.key ≠ (p.data.toList, c.data.toList) := by
    intro e he hk
    obtain ⟨j, hj⟩ := List.getElem?_of_mem he
    by_cases h1 : j < i
    · have := a.below h.up j e h1 hj
      rw [hk] at this; exact klt_irrefl _ this
    · by_cases h2 : j = i
      · subst h2
        have := a.here hh hj
        rw [hk] at this; exact klt_irrefl _ this
      · have := a.above h.up j e (by omega) hj
        rw [hk] at this; exact klt_irrefl _ this
  have hL0 : tot L (p.data.toList, c.data.toList) = 0 := tot_none (fun q hq hqk => by
    obtain ⟨e, he, hek⟩ := h.has q hq
    exact hnk e he (hek.trans hqk))
  refine ⟨insI_up h.up a hh, fun e he => ?_, fun q hq => ?_, fun e he => ?_, fun e he => ?_, ⟨?_, fun e he => ?_⟩⟩
  · rw [tot_append, tot_one]
    rcases mem_insI.1 he with rfl | he
    · show [n].sum = tot L (p.data.toList, c.data.toList) + (if (p.data.toList, c.data.toList) = (p.data.toList, c.data.toList) then n else 0)
      rw [hL0, if_pos rfl]; simp
    · rw [if_neg (fun e' => hnk e he e'.symm), h.sum e he]; omega
  · rcases List.mem_append.1 hq with hq | hq
    · obtain ⟨e, he, hek⟩ := h.has q hq
      exact ⟨e, mem_insI.2 (.inr he), hek⟩
    · rw [List.mem_singleton] at hq; subst hq
      exact ⟨_, mem_insI.2 (.inl rfl), rfl⟩
  · rcases mem_insI.1 he with rfl | he
    · exact ⟨_, List.mem_append.2 (.inr (List.mem_singleton.2 rfl)), rfl⟩
    · obtain ⟨q, hq, hqk⟩ := h.of e he
      exact ⟨q, List.mem_append.2 (.inl hq), hqk⟩
  · rcases mem_insI.1 he with rfl | he
    · intro x hx
      have hx : x ∈ [n] := hx
      rw [List.mem_singleton] at hx; subst hx; exact hn
    · exact h.rng e he
  · rw [insI_len _ _ _ a.le, List.length_append]
    have := h.len.1
    show _ ≤ L.length + 1
    omega
  · rw [List.length_append]
    rcases mem_insI.1 he with rfl | he
    · show 1 ≤ L.length + 1; omega
    · have := h.len.2 e he
      show _ ≤ L.length + 1
      omega
/-- One amount more. -/
theorem LsE.more {es : List Ent} {L : List (Ky × Int)} (h : LsE es L) {i : Nat} {e : Ent} {n : Int} {av : Value} (he : es[i]? = some e) (hn : -9223372036854775808 ≤ n ∧ n ≤ 9223372036854775807) :
    LsE (es.set i ⟨e.party, e.coin, e.all ++ [n], av⟩) (L ++ [(e.key, n)]) := by
  have hil := (List.getElem?_eq_some_iff.1 he).1
  have hkey : ∀ (j : Nat) x, (es.set i ⟨e.party, e.coin, e.all ++ [n], av⟩)[j]? = some x → ∃ y, es[j]? = some y ∧ y.key = x.key ∧ ((j = i ∧ x = ⟨e.party, e.coin, e.all ++ [n], av⟩) ∨ (j ≠ i ∧ x = y)) := by
    intro j x hx
    rw [List.getElem?_set] at hx
    by_cases e1 : i = j
    · subst e1
      rw [if_pos rfl, if_pos hil] at hx
      injection hx with hx
      exact ⟨e, he, by rw [← hx]; rfl, .inl ⟨rfl, hx.symm⟩⟩
    · rw [if_neg e1] at hx
      exact ⟨x, hx, rfl, .inr ⟨fun e2 => e1 e2.symm, rfl⟩⟩
  have hmem : ∀ x ∈ es.set i ⟨e.party, e.coin, e.all ++ [n], av⟩, x = ⟨e.party, e.coin, e.all ++ [n], av⟩ ∨ (x ∈ es ∧ x.key ≠ e.key) := by
    intro x hx
    obtain ⟨j, hj⟩ := List.getElem?_of_mem hx
    obtain ⟨y, hy, -, ⟨-, h2⟩ | ⟨h1, h2⟩⟩ := hkey j x hj
    · exact .inl h2
    · subst h2
      refine .inr ⟨List.mem_of_getElem? hy, fun hk => ?_⟩
      rcases Nat.lt_or_gt_of_ne h1 with h3 | h3
      · have := h.up.at hy he h3
        rw [hk] at this; exact klt_irrefl _ this
      · have := h.up.at he hy h3
        rw [hk] at this; exact klt_irrefl _ this
  refine ⟨?_, fun x hx => ?_, fun q hq => ?_, fun x hx => ?_, fun x hx => ?_, ⟨?_, fun x hx => ?_⟩⟩
  · unfold UpK
    rw [List.pairwise_iff_getElem]
    intro a b ha hb hab
    obtain ⟨y, hy, hyk, -⟩ := hkey a _ (List.getElem?_eq_getElem ha)
    obtain ⟨z, hz, hzk, -⟩ := hkey b _ (List.getElem?_eq_getElem hb)
    rw [← hyk, ← hzk]
    exact h.up.at hy hz hab
  · rw [tot_append, tot_one]
    rcases hmem x hx with rfl | ⟨hx, hxk⟩
    · show (e.all ++ [n]).sum = tot L e.key + (if e.key = e.key then n else 0)
      rw [if_pos rfl, List.sum_append, h.sum e (List.mem_of_getElem? he)]; simp
    · rw [if_neg (fun e' => hxk e'.symm), h.sum x hx]; omega
  · have hin : ∀ k, (∃ y ∈ es, y.key = k) → ∃ x ∈ es.set i ⟨e.party, e.coin, e.all ++ [n], av⟩, x.key = k := by
      rintro k ⟨y, hy, hyk⟩
      obtain ⟨j, hj⟩ := List.getElem?_of_mem hy
      by_cases e1 : i = j
      · subst e1
        rw [he] at hj; injection hj with hj; subst hj
        exact ⟨_, List.mem_set hil _, hyk⟩
      · exact ⟨y, List.mem_of_getElem? (by rw [List.getElem?_set, if_neg e1]; exact hj), hyk⟩
    rcases List.mem_append.1 hq with hq | hq
    · exact hin _ (h.has q hq)
    · rw [List.mem_singleton] at hq; subst hq
      exact hin _ ⟨e, List.mem_of_getElem? he, rfl⟩
  · rcases hmem x hx with rfl | ⟨hx, -⟩
    · exact ⟨_, List.mem_append.2 (.inr (List.mem_singleton.2 rfl)), rfl⟩
    · obtain ⟨q, hq, hqk⟩ := h.of x hx
      exact ⟨q, List.mem_append.2 (.inl hq), hqk⟩
  · rcases hmem x hx with rfl | ⟨hx, -⟩
    · intro y hy
      have hy : y ∈ e.all ++ [n] := hy
      rcases List.mem_append.1 hy with hy | hy
      · exact h.rng e (List.mem_of_getElem? he) y hy
      · rw [List.mem_singleton] at hy; subst hy; exact hn
    · exact h.rng x hx
  · rw [List.length_set, List.length_append]
    have := h.len.1
    omega
  · rw [List.length_append]
    rcases hmem x hx with rfl | ⟨hx, -⟩
    · show (e.all ++ [n]).length ≤ _
      rw [List.length_append]
      have := h.len.2 e (List.mem_of_getElem? he)
      show _ + 1 ≤ L.length + 1
      omega
    · have := h.len.2 x hx
      omega
/-- What has come of a currency. -/
def coinL (L : List (Ky × Int)) (c : List UInt8) : Int := ((L.filter (fun p => p.1.2 == c)).map (fun p => p.2)).sum
def coinE (es : List Ent) (c : List UInt8) : Int := ((es.filter (fun e => e.key.2 == c)).map (fun e => e.all.sum)).sum
def CoE (es : List Ent) (L : List (Ky × Int)) : Prop := ∀ c, coinE es c = coinL L c
theorem coinL_append (L M : List (Ky × Int)) (c : List UInt8) : coinL (L ++ M) c = coinL L c + coinL M c := by
  unfold coinL
  rw [List.filter_append, List.map_append, List.sum_append]
theorem coinE_append (L M : List Ent) (c : List UInt8) : coinE (L ++ M) c = coinE L c + coinE M c := by
  unfold coinE
  rw [List.filter_append, List.map_append, List.sum_append]
theorem coinE_cons (e : Ent) (M : List Ent) (c : List UInt8) : coinE (e :: M) c = (if e.key.2 = c then e.all.sum else 0) + coinE M c := by
  unfold coinE
  by_cases h : e.key.2 = c
  · rw [if_pos h, List.filter_cons_of_pos (by simpa using h)]; simp
  · rw [if_neg h, List.filter_cons_of_neg (by simpa using h)]; omega
theorem coinL_one (x : Ky) (n : Int) (c : List UInt8) : coinL [(x, n)] c = if x.2 = c then n else 0 := by
  unfold coinL
  by_cases h : x.2 = c
  · rw [if_pos h, List.filter_cons_of_pos (by simpa using h)]; simp
  · rw [if_neg h, List.filter_cons_of_neg (by simpa using h)]; rfl
theorem CoE.new {es : List Ent} {L : List (Ky × Int)} (h : CoE es L) (i : Nat) (p c : ByteArray) (n : Int) (av : Value) : CoE (insI es i ⟨p, c, [n], av⟩) (L ++ [((p.data.toList, c.data.toList), n)]) := by
  intro x
  have h1 : coinE es x = coinE (es.take i) x + coinE (es.drop i) x := by rw [← coinE_append, List.take_append_drop]
  have h2 := h x
  unfold insI
  rw [coinE_append, coinE_cons, coinL_append, coinL_one]
  have e1 : (⟨p, c, [n], av⟩ : Ent).key.2 = c.data.toList := rfl
  have e2 : (⟨p, c, [n], av⟩ : Ent).all.sum = n := by show [n].sum = n; simp
  rw [e1, e2]
  show _ = coinL L x + (if c.data.toList = x then n else 0)
  by_cases hx : c.data.toList = x
  · rw [if_pos hx]; omega
  · rw [if_neg hx]; omega
theorem CoE.more {es : List Ent} {L : List (Ky × Int)} (h : CoE es L) {i : Nat} {e : Ent} (n : Int) (av : Value) (he : es[i]? = some e) : CoE (es.set i ⟨e.party, e.coin, e.all ++ [n], av⟩) (L ++ [(e.key, n)]) := by
  intro x
  obtain ⟨hil, hi⟩ := List.getElem?_eq_some_iff.1 he
  have h1 : es = es.take i ++ e :: es.drop (i + 1) := by
    have h5 := List.drop_eq_getElem_cons hil
    rw [hi] at h5
    rw [← h5, List.take_append_drop]
  have h2 := h x
  have h3 : es.set i ⟨e.party, e.coin, e.all ++ [n], av⟩ = es.take i ++ ⟨e.party, e.coin, e.all ++ [n], av⟩ :: es.drop (i + 1) := List.set_eq_take_append_cons_drop .. |>.trans (if_pos hil)
  rw [h3, coinE_append, coinE_cons, coinL_append, coinL_one]
  have h4 : coinE es x = coinE (es.take i) x + ((if e.key.2 = x then e.all.sum else 0) + coinE (es.drop (i + 1)) x) := by
    conv => lhs; rw [h1]
    rw [coinE_append, coinE_cons]
  have e2 : (⟨e.party, e.coin, e.all ++ [n], av⟩ : Ent).all.sum = e.all.sum + n := by show (e.all ++ [n]).sum = _; rw [List.sum_append]; simp
  have e1 : (⟨e.party, e.coin, e.all ++ [n], av⟩ : Ent).key = e.key := rfl
  rw [e1, e2]
  by_cases hx : e.key.2 = x
  · rw [if_pos hx] at h4 ⊢
    rw [if_pos hx]; omega
  · rw [if_neg hx] at h4 ⊢
    rw [if_neg hx]; omega
/-- The books that come of what came. -/
structure OutOf (out : List Acct) (L : List (Ky × Int)) : Prop where
  up : UpK Acct.key out
  amt : ∀ a ∈ out, a.amt = tot L a.key ∧ a.amt ≠ 0
  all : ∀ k, tot L k ≠ 0 → ∃ a ∈ out, a.key = k
def outA (es : List Ent) : List Acct := es.filterMap (fun e => if e.all.sum = 0 then none else some ⟨e.party, e.coin, e.all.sum⟩)
theorem outA_mem {es : List Ent} {a : Acct} : a ∈ outA es ↔ ∃ e ∈ es, e.all.sum ≠ 0 ∧ a = ⟨e.party, e.coin, e.all.sum⟩ := by
  unfold outA
  rw [List.mem_filterMap]
  constructor
  · rintro ⟨e, he, h⟩
    by_cases h0 : e.all.sum = 0
    · rw [if_pos h0] at h; cases h
    · rw [if_neg h0] at h; injection h with h
      exact ⟨e, he, h0, h.symm⟩
  · rintro ⟨e, he, h0, rfl⟩
    exact ⟨e, he, by rw [if_neg h0]⟩
theorem LsE.out {es : List Ent} {L : List (Ky × Int)} (h : LsE es L) : OutOf (outA es) L := by
  refine ⟨?_, fun a ha => ?_, fun k hk => ?_⟩
  · unfold outA UpK
    rw [List.pairwise_filterMap]
    refine h.up.imp (fun {x y} hxy b hb b' hb' => ?_)
    split at hb
    · cases hb
    · split at hb'
      · cases hb'
      · injection hb with hb; injection hb' with hb'
        subst hb; subst hb'; exact hxy
  · obtain ⟨e, he, h0, rfl⟩ := outA_mem.1 ha
    exact ⟨h.sum e he, h0⟩
  · have : ∃ p ∈ L, p.1 = k := by
      refine Classical.byContradiction (fun hn => hk (tot_none (fun p hp e => hn ⟨p, hp, e⟩)))
    obtain ⟨p, hp, hpk⟩ := this
    obtain ⟨e, he, hek⟩ := h.has p hp
    refine ⟨⟨e.party, e.coin, e.all.sum⟩, outA_mem.2 ⟨e, he, ?_, rfl⟩, hek.trans hpk⟩
    rw [h.sum e he, hek, hpk]; exact hk
theorem acct_ext {a b : Acct} (hk : a.key = b.key) (hn : a.amt = b.amt) : a = b := by
  obtain ⟨⟨⟨p⟩⟩, ⟨⟨c⟩⟩, n⟩ := a
  obtain ⟨⟨⟨p'⟩⟩, ⟨⟨c'⟩⟩, n'⟩ := b
  have h1 : p = p' := congrArg (fun x : Ky => x.1) hk
  have h2 : c = c' := congrArg (fun x : Ky => x.2) hk
  have h3 : n = n' := hn
  rw [h1, h2, h3]
theorem up_ext {α : Type} {key : α → Ky} (hx : ∀ a b : α, a ∈ ([] : List α) → a = b) : ∀ {l m : List α}, UpK key l → UpK key m → (∀ a, a ∈ l ↔ a ∈ m) → l = m
  | [], [], _, _, _ => rfl
  | [], b :: m, _, _, h => by have := (h b).2 (List.mem_cons_self ..); cases this
  | a :: l, [], _, _, h => by have := (h a).1 (List.mem_cons_self ..); cases this
  | a :: l, b :: m, hl, hm, h => by
    unfold UpK at hl hm
    rw [List.pairwise_cons] at hl hm
    have hab : a = b := by
      rcases List.mem_cons.1 ((h a).1 (List.mem_cons_self ..)) with e | h1
      · exact e
      · rcases List.mem_cons.1 ((h b).2 (List.mem_cons_self ..)) with e | h2
        · exact e.symm
        · exact absurd (klt_trans (hl.1 b h2) (hm.1 a h1)) (klt_irrefl _)
    subst hab
    congr 1
    refine up_ext hx hl.2 hm.2 (fun x => ?_)
    constructor
    · intro hxl
      rcases List.mem_cons.1 ((h x).1 (List.mem_cons_of_mem _ hxl)) with e | h1
      · subst e; exact absurd (hl.1 x hxl) (klt_irrefl _)
      · exact h1
    · intro hxm
      rcases List.mem_cons.1 ((h x).2 (List.mem_cons_of_mem _ hxm)) with e | h1
      · subst e; exact absurd (hm.1 x hxm) (klt_irrefl _)
      · exact h1
theorem OutOf.uniq {out out' : List Acct} {L L' : List (Ky × Int)} (h : OutOf out L) (h' : OutOf out' L') (e : ∀ k, tot L k = tot L' k) : out = out' := by
  refine up_ext (key := Acct.key) (fun a b h => nomatch h) h.up h'.up (fun a => ?_)
  constructor
  · intro ha
    obtain ⟨h1, h2⟩ := h.amt a ha
    obtain ⟨b, hb, hbk⟩ := h'.all a.key (by rw [← e, ← h1]; exact h2)
    have : a = b := acct_ext hbk.symm (by rw [h1, (h'.amt b hb).1, hbk, e])
    rw [this]; exact hb
  · intro ha
    obtain ⟨h1, h2⟩ := h'.amt a ha
    obtain ⟨b, hb, hbk⟩ := h.all a.key (by rw [e, ← h1]; exact h2)
    have : a = b := acct_ext hbk.symm (by rw [h1, (h.amt b hb).1, hbk, e])
    rw [this]; exact hb
/-- What has come of a currency, in books. -/
def coinA (l : List Acct) (c : List UInt8) : Int := ((l.filter (fun a => a.key.2 == c)).map (fun a => a.amt)).sum
theorem coinA_cons (a : Acct) (M : List Acct) (c : List UInt8) : coinA (a :: M) c = (if a.key.2 = c then a.amt else 0) + coinA M c := by
  unfold coinA
  by_cases h : a.key.2 = c
  · rw [if_pos h, List.filter_cons_of_pos (by simpa using h)]; simp
  · rw [if_neg h, List.filter_cons_of_neg (by simpa using h)]; omega
theorem outA_coin (es : List Ent) (c : List UInt8) : coinA (outA es) c = coinE es c := by
  induction es with
  | nil => rfl
  | cons e t ih =>
    rw [coinE_cons]
    by_cases h0 : e.all.sum = 0
    · have : outA (e :: t) = outA t := by unfold outA; rw [List.filterMap_cons, if_pos h0]
      rw [this, ih, h0]; split <;> omega
    · have : outA (e :: t) = ⟨e.party, e.coin, e.all.sum⟩ :: outA t := by unfold outA; rw [List.filterMap_cons, if_neg h0]
      rw [this, coinA_cons, ih]; rfl
def fits64 (n : Int) : Bool := decide (-9223372036854775808 ≤ n) && decide (n ≤ 9223372036854775807)
end Go.Proofs.Ytgbiimoednmlgaa
