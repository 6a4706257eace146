/- Moves leave books even, posted in two goes too: plain. -/
import Derived.Test.YtgbiimoednmlgaaLdS
import Derived.Test.YtgbiimoednmlgaaStrB
namespace Go.Proofs.Ytgbiimoednmlgaa
set_option linter.unusedVariables false
set_option linter.unusedSimpArgs false
open Go.RowKit
def Mv.kf (x : Mv) : Ky := (x.src.data.toList, x.coin.data.toList)
def Mv.kt (x : Mv) : Ky := (x.dst.data.toList, x.coin.data.toList)
def conM (m : List Mv) : List (Ky × Int) := m.flatMap (fun x => [(x.kf, -x.amt), (x.kt, x.amt)])
def conA (l : List Acct) : List (Ky × Int) := l.map (fun a => (a.key, a.amt))
theorem conM_append (a b : List Mv) : conM (a ++ b) = conM a ++ conM b := by unfold conM; rw [List.flatMap_append]
theorem conM_one (x : Mv) : conM [x] = [(x.kf, -x.amt), (x.kt, x.amt)] := by unfold conM; simp
theorem conM_coin (m : List Mv) (c : List UInt8) : coinL (conM m) c = 0 := by
  induction m with
  | nil => rfl
  | cons x t ih =>
    have e : conM (x :: t) = [(x.kf, -x.amt)] ++ ([(x.kt, x.amt)] ++ conM t) := by unfold conM; rw [List.flatMap_cons]; rfl
    rw [e, coinL_append, coinL_append, coinL_one, coinL_one, ih]
    have e1 : x.kf.2 = x.kt.2 := rfl
    rw [e1]
    by_cases h : x.kt.2 = c
    · rw [if_pos h, if_pos h]; omega
    · rw [if_neg h, if_neg h]; omega
/-- No account is beyond. -/
def FitL (L : List (Ky × Int)) : Prop := ∀ k, fits64 (tot L k) = true
theorem fits_zero : fits64 0 = true := by decide
theorem FitL.of {L : List (Ky × Int)} (h : ∀ p ∈ L, fits64 (tot L p.1) = true) : FitL L := by
  intro k
  by_cases hk : ∃ p ∈ L, p.1 = k
  · obtain ⟨p, hp, rfl⟩ := hk
    exact h p hp
  · rw [tot_none (fun p hp e => hk ⟨p, hp, e⟩)]; exact fits_zero
theorem LsE.fit {es : List Ent} {L : List (Ky × Int)} (h : LsE es L) : FitL L ↔ ∀ e ∈ es, fits64 e.all.sum = true := by
  constructor
  · intro hf e he
    rw [h.sum e he]; exact hf _
  · intro hf
    refine FitL.of (fun p hp => ?_)
    obtain ⟨e, he, hek⟩ := h.has p hp
    rw [← hek, ← h.sum e he]; exact hf e he
theorem tot_conA_none {l : List Acct} {k : Ky} (h : ∀ a ∈ l, a.key ≠ k) : tot (conA l) k = 0 := tot_none (fun p hp e => by
  obtain ⟨a, ha, rfl⟩ := List.mem_map.1 hp
  exact h a ha e)
theorem tot_conA {l : List Acct} (hu : UpK Acct.key l) {a : Acct} (ha : a ∈ l) : tot (conA l) a.key = a.amt := by
  induction l with
  | nil => cases ha
  | cons b t ih =>
    unfold UpK at hu
    rw [List.pairwise_cons] at hu
    have e : conA (b :: t) = [(b.key, b.amt)] ++ conA t := rfl
    rw [e, tot_append, tot_one]
    rcases List.mem_cons.1 ha with rfl | ha
    · rw [if_pos rfl, tot_conA_none (fun x hx e => by have := hu.1 x hx; rw [e] at this; exact klt_irrefl _ this)]; omega
    · rw [if_neg (fun e => by have := hu.1 a ha; rw [e] at this; exact klt_irrefl _ this), ih hu.2 ha]; omega
/-- What books have is what came to them. -/
theorem OutOf.tot {out : List Acct} {L : List (Ky × Int)} (h : OutOf out L) (k : Ky) : Go.Proofs.Ytgbiimoednmlgaa.tot (conA out) k = Go.Proofs.Ytgbiimoednmlgaa.tot L k := by
  by_cases hk : ∃ a ∈ out, a.key = k
  · obtain ⟨a, ha, rfl⟩ := hk
    rw [tot_conA h.up ha, (h.amt a ha).1]
  · rw [tot_conA_none (fun a ha e => hk ⟨a, ha, e⟩)]
    refine Classical.byContradiction (fun hn => hk (h.all k (fun e => hn e.symm)))
/-- Posted in two goes. -/
theorem two_goes {m n : List Mv} {one : List Acct} (h : OutOf one (conM m)) (k : Ky) : tot (conA one ++ conM n) k = tot (conM (m ++ n)) k := by
  rw [tot_append, h.tot, conM_append, tot_append]
def nmK (t : List UInt8) : Bool := nmd ⟨t.toArray⟩
theorem nmK_of (s : ByteArray) : nmK s.data.toList = nmd s := by unfold nmK; rw [Array.toArray_toList]
/-- Are accounts books? -/
def okA (a : Acct) : Bool := nmd a.party && nmd a.coin && decide (a.amt ≠ 0)
def adjK (key : Acct → Ky) : List Acct → Bool
  | a :: b :: t => decide (kcmp (key a) (key b) < 0) && adjK key (b :: t)
  | _ => true
def rightA (l : List Acct) : Bool := l.all okA && adjK Acct.key l
theorem adjK_up : ∀ {l : List Acct}, adjK Acct.key l = true → UpK Acct.key l
  | [], _ => List.Pairwise.nil
  | [a], _ => List.pairwise_singleton _ _
  | a :: b :: t, h => by
    unfold adjK at h
    rw [Bool.and_eq_true, decide_eq_true_iff] at h
    have ih := adjK_up h.2
    unfold UpK at ih ⊢
    refine List.pairwise_cons.2 ⟨fun x hx => ?_, ih⟩
    have hab := kcmp_neg.1 h.1
    rcases List.mem_cons.1 hx with rfl | hx
    · exact hab
    · exact klt_trans hab ((List.pairwise_cons.1 ih).1 x hx)
theorem up_adjK : ∀ {l : List Acct}, UpK Acct.key l → adjK Acct.key l = true
  | [], _ => rfl
  | [a], _ => rfl
  | a :: b :: t, h => by
    unfold UpK at h
    rw [List.pairwise_cons] at h
    unfold adjK
    rw [decide_eq_true (kcmp_neg.2 (h.1 b (List.mem_cons_self ..))), Bool.true_and]
    exact up_adjK h.2
theorem rightA_iff {l : List Acct} : rightA l = true ↔ (∀ a ∈ l, okA a = true) ∧ UpK Acct.key l := by
  unfold rightA
  rw [Bool.and_eq_true, List.all_eq_true]
  exact ⟨fun h => ⟨h.1, adjK_up h.2⟩, fun h => ⟨h.1, up_adjK h.2⟩⟩
theorem adjK_get : ∀ {l : List Acct}, adjK Acct.key l = true ↔ ∀ (i : Nat) a b, l[i]? = some a → l[i + 1]? = some b → kcmp a.key b.key < 0
  | [] => ⟨fun _ i a b h => by simp at h, fun _ => rfl⟩
  | [a] => ⟨fun _ i x b _ h => by simp at h, fun _ => rfl⟩
  | a :: b :: t => by
    unfold adjK
    rw [Bool.and_eq_true, decide_eq_true_iff, adjK_get (l := b :: t)]
    constructor
    · rintro ⟨h1, h2⟩ i x y hx hy
      cases i with
      | zero =>
        injection hx with hx; injection hy with hy
        subst hx; subst hy; exact h1
      | succ i => exact h2 i x y hx hy
    · intro h
      exact ⟨h 0 a b rfl rfl, fun i x y hx hy => h (i + 1) x y hx hy⟩
/-- Books even: right, and of each currency the amounts come to nothing. -/
def evenA (l : List Acct) : Bool := rightA l && l.all (fun a => decide (coinA l a.coin.data.toList = 0))
def NamL (L : List (Ky × Int)) : Prop := ∀ p ∈ L, nmK p.1.1 = true ∧ nmK p.1.2 = true
theorem OutOf.right {out : List Acct} {L : List (Ky × Int)} (h : OutOf out L) (hn : NamL L) : rightA out = true := by
  rw [rightA_iff]
  refine ⟨fun a ha => ?_, h.up⟩
  obtain ⟨h1, h2⟩ := h.amt a ha
  have : ∃ p ∈ L, p.1 = a.key := Classical.byContradiction (fun hx => h2 (by rw [h1]; exact tot_none (fun p hp e => hx ⟨p, hp, e⟩)))
  obtain ⟨p, hp, hpk⟩ := this
  obtain ⟨n1, n2⟩ := hn p hp
  rw [hpk] at n1 n2
  unfold okA
  rw [← nmK_of, ← nmK_of, decide_eq_true h2]
  show (nmK a.key.1 && nmK a.key.2 && true) = true
  rw [n1, n2]; rfl
/-- What Post gives. -/
structure PostOut (out : List Acct) (L : List (Ky × Int)) : Prop where
  is : OutOf out L
  coin : ∀ c, coinA out c = coinL L c
theorem PostOut.of {es : List Ent} {L : List (Ky × Int)} (h : LsE es L) (hc : CoE es L) : PostOut (outA es) L := ⟨h.out, fun c => by rw [outA_coin, hc]⟩
theorem PostOut.even {out : List Acct} {m : List Mv} (h : PostOut out (conM m)) (hn : NamL (conM m)) : evenA out = true := by
  unfold evenA
  rw [h.is.right hn, Bool.true_and, List.all_eq_true]
  intro a ha
  rw [h.coin, conM_coin]; rfl
def mayM (x : Mv) : Bool := nmd x.src && nmd x.dst && nmd x.coin && decide (x.src.data.toList ≠ x.dst.data.toList) && decide (1 ≤ x.amt)
theorem mayM_nam {m : List Mv} (h : m.all mayM = true) : NamL (conM m) := by
  intro p hp
  unfold conM at hp
  rw [List.mem_flatMap] at hp
  obtain ⟨x, hx, hp⟩ := hp
  have h1 := List.all_eq_true.1 h x hx
  unfold mayM at h1
  simp only [Bool.and_eq_true] at h1
  obtain ⟨⟨⟨⟨h1, h2⟩, h3⟩, -⟩, -⟩ := h1
  rw [List.mem_cons, List.mem_singleton] at hp
  rcases hp with rfl | rfl
  · exact ⟨by show nmK x.src.data.toList = true; rw [nmK_of]; exact h1, by show nmK x.coin.data.toList = true; rw [nmK_of]; exact h3⟩
  · exact ⟨by show nmK x.dst.data.toList = true; rw [nmK_of]; exact h2, by show nmK x.coin.data.toList = true; rw [nmK_of]; exact h3⟩
theorem right_nam {l : List Acct} (h : rightA l = true) : NamL (conA l) := by
  intro p hp
  obtain ⟨a, ha, rfl⟩ := List.mem_map.1 hp
  have := (rightA_iff.1 h).1 a ha
  unfold okA at this
  simp only [Bool.and_eq_true] at this
  exact ⟨by show nmK a.party.data.toList = true; rw [nmK_of]; exact this.1.1, by show nmK a.coin.data.toList = true; rw [nmK_of]; exact this.1.2⟩
end Go.Proofs.Ytgbiimoednmlgaa
