/- A part of the proof: NdP, ToP, Apz, LdV, ToM, Keys, ToT, Big, one behind another. -/
import Derived.Test.YtmiinmndbkdjbaaGreatMTA
import Derived.Test.YtmiinmndbkdjbaaGreatMTB
import Derived.Test.YtmiinmndbkdjbaaGreatMTC
import Derived.Test.YtmiinmndbkdjbaaGreatMTD
import Derived.Test.YtmiinmndbkdjbaaGreatMTE
import Derived.Test.YtmiinmndbkdjbaaGreatMTF
import Derived.Test.YtmiinmndbkdjbaaGreatMTG
import Derived.Test.YtmiinmndbkdjbaaGreatMTH
import Derived.Test.YtmiinmndbkdjbaaGreatMTI
import Derived.Test.YtmiinmndbkdjbaaGreatMTJ
import Derived.Test.YtmiinmndbkdjbaaGreatMTK
import Derived.Test.YtmiinmndbkdjbaaGreatMTL
import Derived.Test.YtmiinmndbkdjbaaGreatMTM
import Derived.Test.YtmiinmndbkdjbaaGreatMTN
import Derived.Test.YtmiinmndbkdjbaaGreatMTO
import Derived.Test.YtmiinmndbkdjbaaGreatMTQ
import Derived.Test.YtmiinmndbkdjbaaGreatMTR
import Derived.Sort.KeysCollected
import Derived.Maps.OwnRows
import Derived.Maps.Views
import Derived.Deep.Upon
import Derived.Test.YtmiinmndbkdjbaaGreatProg
import Derived.Test.YtmiinmndbkdjbaaGreatChecked
import Derived.Laws.Cover1
import Derived.Sort.Walk0
import Derived.BigQuiet
import Derived.BigRegion
import Derived.StillTailTactics
import Derived.Deep.CutBlock
import Derived.Deep.DeepCutAuto
import Derived.Deep.QuietTactic
import Derived.IntWalk
import Derived.LoopTactic
import Derived.Laws.Shifts
import Derived.Maps.GroupsBeside
import Derived.Shelf.SlIter.Nil
import Derived.Shelf.SortM.Plain
import Derived.Shelf.SortM.SortNone
import Derived.WalkKit
/- A name put into a rising list at its place: plain. -/
namespace Go.Proofs.YtmiinmndbkdjbaaGreat
set_option linter.unusedVariables false
set_option linter.unusedSimpArgs false
open Go.RowKit
abbrev Tx := List UInt8
def ltB (x y : Tx) : Bool := decide (x < y)
def posL (s : Tx) (l : List Tx) : Nat := (l.takeWhile (fun x => ltB x s)).length
def insL (s : Tx) (l : List Tx) : List Tx := if l[posL s l]? = some s then l else l.take (posL s l) ++ s :: l.drop (posL s l)
theorem insL_mem {s x : Tx} {l : List Tx} : x ∈ insL s l ↔ x = s ∨ x ∈ l := by
  unfold insL
  split
  · rename_i h
    constructor
    · exact .inr
    · rintro (rfl | h2)
      · exact List.mem_of_getElem? h
      · exact h2
  · have := List.take_append_drop (posL s l) l
    constructor
    · intro h
      rcases List.mem_append.1 h with h | h
      · exact .inr (List.mem_of_mem_take h)
      · rcases List.mem_cons.1 h with rfl | h
        · exact .inl rfl
        · exact .inr (List.mem_of_mem_drop h)
    · rintro (rfl | h)
      · simp
      · rw [← this] at h
        rcases List.mem_append.1 h with h | h
        · exact List.mem_append.2 (.inl h)
        · exact List.mem_append.2 (.inr (List.mem_cons_of_mem _ h))
theorem insL_cons (s x : Tx) (t : List Tx) : insL s (x :: t) = if ltB x s = true then x :: insL s t else if x = s then x :: t else s :: x :: t := by
  by_cases h : ltB x s = true
  · rw [if_pos h]
    have hp : posL s (x :: t) = posL s t + 1 := by unfold posL; rw [List.takeWhile_cons, if_pos h, List.length_cons]
    unfold insL
    rw [hp, List.getElem?_cons_succ, List.take_succ_cons, List.drop_succ_cons]
    split <;> rfl
  · rw [if_neg h]
    have hp : posL s (x :: t) = 0 := by unfold posL; rw [List.takeWhile_cons, if_neg h]; rfl
    unfold insL
    rw [hp]
    simp
theorem insL_rising {s : Tx} {l : List Tx} (h : l.Pairwise (fun x y => x < y)) : (insL s l).Pairwise (fun x y => x < y) := by
  induction l with
  | nil => simp [insL, posL]
  | cons x t ih =>
    rw [List.pairwise_cons] at h
    rw [insL_cons]
    by_cases hx : ltB x s = true
    · rw [if_pos hx, List.pairwise_cons]
      refine ⟨fun y hy => ?_, ih h.2⟩
      rcases insL_mem.1 hy with rfl | hy
      · exact of_decide_eq_true hx
      · exact h.1 y hy
    · rw [if_neg hx]
      by_cases he : x = s
      · rw [if_pos he, List.pairwise_cons]; exact h
      · rw [if_neg he, List.pairwise_cons, List.pairwise_cons]
        have hlt : s < x := by
          have hx' : ¬ x < s := fun hh => hx (decide_eq_true hh)
          by_cases h1 : s < x
          · exact h1
          · exact absurd (List.le_antisymm (List.not_lt.1 h1) (List.not_lt.1 hx')) he
        refine ⟨fun y hy => ?_, h⟩
        rcases List.mem_cons.1 hy with rfl | hy
        · exact hlt
        · exact List.lt_trans hlt (h.1 y hy)
/-- Names put in one behind another. -/
def putL (l : List Tx) (ns : List ByteArray) : List Tx := ns.foldl (fun acc s => insL s.data.toList acc) l
theorem putL_mem {x : Tx} : ∀ (ns : List ByteArray) (l : List Tx), x ∈ putL l ns ↔ x ∈ l ∨ ∃ s ∈ ns, s.data.toList = x
  | [], l => by simp [putL]
  | n :: t, l => by
    have : putL l (n :: t) = putL (insL n.data.toList l) t := rfl
    rw [this, putL_mem t, insL_mem]
    simp only [List.mem_cons, exists_eq_or_imp]
    constructor
    · rintro ((h | h) | h)
      · exact .inr (.inl h.symm)
      · exact .inl h
      · exact .inr (.inr h)
    · rintro (h | h | h)
      · exact .inl (.inr h)
      · exact .inl (.inl h.symm)
      · exact .inr h
theorem putL_rising : ∀ (ns : List ByteArray) (l : List Tx), l.Pairwise (fun x y => x < y) → (putL l ns).Pairwise (fun x y => x < y)
  | [], _, h => h
  | n :: t, l, h => putL_rising t _ (insL_rising h)
theorem putL_append (l : List Tx) (a b : List ByteArray) : putL l (a ++ b) = putL (putL l a) b := List.foldl_append ..
/-- Rising lists of the same texts are one. -/
theorem rising_eq : ∀ (l l' : List Tx), l.Pairwise (fun x y => x < y) → l'.Pairwise (fun x y => x < y) → (∀ x, x ∈ l ↔ x ∈ l') → l = l'
  | [], [], _, _, _ => rfl
  | [], y :: t, _, _, h => absurd ((h y).2 (List.mem_cons_self ..)) List.not_mem_nil
  | x :: t, [], _, _, h => absurd ((h x).1 (List.mem_cons_self ..)) List.not_mem_nil
  | x :: t, y :: u, h1, h2, h => by
    rw [List.pairwise_cons] at h1 h2
    have hxy : x = y := by
      rcases List.mem_cons.1 ((h x).1 (List.mem_cons_self ..)) with e | e
      · exact e
      · rcases List.mem_cons.1 ((h y).2 (List.mem_cons_self ..)) with e' | e'
        · exact e'.symm
        · exact absurd (List.lt_trans (h1.1 y e') (h2.1 x e)) (List.lt_irrefl x)
    subst hxy
    rw [rising_eq t u h1.2 h2.2 (fun z => ?_)]
    constructor
    · intro hz
      rcases List.mem_cons.1 ((h z).1 (List.mem_cons_of_mem _ hz)) with rfl | e
      · exact absurd (h1.1 _ hz) (List.lt_irrefl _)
      · exact e
    · intro hz
      rcases List.mem_cons.1 ((h z).2 (List.mem_cons_of_mem _ hz)) with rfl | e
      · exact absurd (h2.1 _ hz) (List.lt_irrefl _)
      · exact e
end Go.Proofs.YtmiinmndbkdjbaaGreat

/- Sums of flows, by currency: plain. -/
namespace Go.Proofs.YtmiinmndbkdjbaaGreat
set_option linter.unusedVariables false
set_option linter.unusedSimpArgs false
open Go.RowKit Go.ChangeShapes
def amtF (fl : List Flw) (t : Tx) : List Int := (fl.filter (fun f => f.coin.data.toList == t)).map Flw.amt
theorem amtF_append (a b : List Flw) (t : Tx) : amtF (a ++ b) t = amtF a t ++ amtF b t := by unfold amtF; rw [List.filter_append, List.map_append]
theorem amtF_one (f : Flw) (t : Tx) : amtF [f] t = if f.coin.data.toList = t then [f.amt] else [] := by
  unfold amtF
  by_cases h : f.coin.data.toList = t
  · rw [if_pos h, List.filter_cons_of_pos (by simpa using h)]; rfl
  · rw [if_neg h, List.filter_cons_of_neg (by simpa using h)]; rfl
theorem take_snoc {α : Type} {l : List α} {k : Nat} {f : α} (h : l[k]? = some f) : l.take (k + 1) = l.take k ++ [f] := by
  obtain ⟨hk, e⟩ := List.getElem?_eq_some_iff.1 h
  rw [← List.take_append_getElem hk, e]
theorem amtF_take {l : List Flw} {k : Nat} {f : Flw} (h : l[k]? = some f) (t : Tx) : amtF (l.take (k + 1)) t = amtF (l.take k) t ++ (if f.coin.data.toList = t then [f.amt] else []) := by
  rw [take_snoc h, amtF_append, amtF_one]
theorem amtF_ne {l : List Flw} {t : Tx} : amtF l t ≠ [] ↔ ∃ f ∈ l, f.coin.data.toList = t := by
  unfold amtF
  constructor
  · intro h
    have h1 : l.filter (fun f => f.coin.data.toList == t) ≠ [] := fun e => h (by rw [e]; rfl)
    obtain ⟨f, hf⟩ := List.exists_mem_of_ne_nil _ h1
    obtain ⟨h2, h3⟩ := List.mem_filter.1 hf
    exact ⟨f, h2, by simpa using h3⟩
  · rintro ⟨f, hf, ht⟩ e
    have : f ∈ l.filter (fun f => f.coin.data.toList == t) := List.mem_filter.2 ⟨hf, by simpa using ht⟩
    rw [List.map_eq_nil_iff.1 e] at this; cases this
theorem amtF_len (l : List Flw) (t : Tx) : (amtF l t).length ≤ l.length := by unfold amtF; rw [List.length_map]; exact List.length_filter_le ..
theorem amtF_mem {l : List Flw} {t : Tx} {n : Int} (h : n ∈ amtF l t) : ∃ f ∈ l, f.amt = n := by
  unfold amtF at h
  obtain ⟨f, hf, rfl⟩ := List.mem_map.1 h
  exact ⟨f, (List.mem_filter.1 hf).1, rfl⟩
/-- The map's datum reads as these flows. -/
def gDat (zs : List Int) : DataW Unit := .slice (lits .i64 zs) []
structure MapK (ks : List Tx) (fl : List Flw) (D : DataW Unit) : Prop where
  is : ∃ es, D = .map es ∧ es.Perm (ks.map (fun t => (Lit.string t, gDat (amtF fl t))))
  nd : ks.Nodup
  all : ∀ t, t ∈ ks ↔ amtF fl t ≠ []
  len : ks.length ≤ fl.length
theorem keyT (t : Tx) : WideAt.IsKeyLit (Lit.string t) := by simp [WideAt.IsKeyLit]
theorem sameT (s t : Tx) : (Lit.string s).sameKey (Lit.string t) = (s == t) := by
  cases h : (Lit.string s).sameKey (Lit.string t) with
  | true => have := WideAt.sameKey_eq h; injection this with this; subst this; simp
  | false =>
    cases h2 : s == t with
    | false => rfl
    | true =>
      have e : s = t := by simpa using h2
      subst e
      rw [WideAt.sameKey_self (keyT s)] at h; cases h
theorem MapK.nil : MapK [] [] (.map []) := ⟨⟨[], rfl, .refl _⟩, List.nodup_nil, fun t => ⟨fun h => (nomatch h), fun h => absurd rfl h⟩, Nat.le_refl _⟩
theorem MapK.size {ks : List Tx} {fl : List Flw} {D : DataW Unit} (h : MapK ks fl D) : Maps.size D = ks.length := by
  obtain ⟨es, rfl, hp⟩ := h.is
  show es.length = _
  rw [hp.length_eq, List.length_map]
theorem MapK.keys {ks : List Tx} {fl : List Flw} {D : DataW Unit} (h : MapK ks fl D) : (Go.strKeys D).Perm ks := by
  obtain ⟨es, rfl, hp⟩ := h.is
  show (es.map (fun p => Go.strOf p.1)).Perm _
  refine (hp.map _).trans ?_
  rw [List.map_map]
  have : ks.map ((fun p : Lit × DataW Unit => Go.strOf p.1) ∘ fun t => (Lit.string t, gDat (amtF fl t))) = ks := by
    conv => rhs; rw [← List.map_id ks]
    exact List.map_congr_left (fun t _ => rfl)
  rw [this]
theorem MapK.at_in {ks : List Tx} {fl : List Flw} {D : DataW Unit} (h : MapK ks fl D) {t : Tx} (ht : t ∈ ks) (z : DataW Unit) : D.atKey (.string t) z = gDat (amtF fl t) := by
  obtain ⟨es, rfl, hp⟩ := h.is
  simp only [DataW.atKey]
  have hm : (Lit.string t, gDat (amtF fl t)) ∈ es := hp.mem_iff.2 (List.mem_map.2 ⟨t, ht, rfl⟩)
  cases hx : es.find? (fun p => p.1.sameKey (.string t)) with
  | none =>
    have := List.find?_eq_none.1 hx _ hm
    rw [WideAt.sameKey_self (keyT t)] at this
    exact absurd rfl this
  | some q =>
    have hq := List.mem_of_find?_eq_some hx
    have hk := List.find?_some hx
    obtain ⟨s, hs, rfl⟩ := List.mem_map.1 (hp.mem_iff.1 hq)
    rw [sameT] at hk
    have e : s = t := by simpa using hk
    rw [e]
theorem MapK.at_out {ks : List Tx} {fl : List Flw} {D : DataW Unit} (h : MapK ks fl D) {t : Tx} (ht : t ∉ ks) (z : DataW Unit) : D.atKey (.string t) z = z := by
  obtain ⟨es, rfl, hp⟩ := h.is
  simp only [DataW.atKey]
  cases hx : es.find? (fun p => p.1.sameKey (.string t)) with
  | none => rfl
  | some q =>
    have hq := List.mem_of_find?_eq_some hx
    have hk := List.find?_some hx
    obtain ⟨s, hs, rfl⟩ := List.mem_map.1 (hp.mem_iff.1 hq)
    rw [sameT] at hk
    have e : s = t := by simpa using hk
    rw [e] at hs; exact absurd hs ht
theorem lits_inj {a b : List Int} (h : (lits (H := Unit) .i64 a) = lits .i64 b) : a = b := by
  unfold lits at h
  exact (List.map_inj_right (fun x y e => by injection e with e; injection e)).1 h
/-- What the look-up hands over is what came of the currency. -/
theorem MapK.ints {ks : List Tx} {fl : List Flw} {D : DataW Unit} (h : MapK ks fl D) {t : Tx} {w : World} {base : Nat} {e : TypeId} {v : Value} {zs : List Int} (hat : D.atKey (.string t) .nil = rowDatum .i64 v zs) (ho : w.ownsInts base e .i64 v zs) : zs = amtF fl t := by
  by_cases ht : t ∈ ks
  · rw [h.at_in ht] at hat
    rcases ho.datum (H := Unit) with ⟨h1, -⟩ | h1
    · rw [h1] at hat; cases hat
    · rw [h1] at hat
      unfold gDat at hat
      injection hat with hat
      exact (lits_inj hat).symm
  · rw [h.at_out ht] at hat
    have h0 : amtF fl t = [] := Classical.byContradiction (fun hn => ht ((h.all t).2 hn))
    rw [h0]
    rcases ho.datum (H := Unit) with ⟨-, h1⟩ | h1
    · exact h1
    · rw [h1] at hat; cases hat
theorem MapK.put {ks : List Tx} {fl : List Flw} {D : DataW Unit} (h : MapK ks fl D) (f : Flw) : MapK (f.coin.data.toList :: ks.filter (fun t => !(t == f.coin.data.toList))) (fl ++ [f]) (D.put (.string f.coin.data.toList) (gDat (amtF fl f.coin.data.toList ++ [f.amt]))) := by
  obtain ⟨c, hc⟩ : ∃ c, c = f.coin.data.toList := ⟨_, rfl⟩
  rw [← hc]
  have hsame : amtF (fl ++ [f]) c = amtF fl c ++ [f.amt] := by rw [amtF_append, amtF_one, if_pos hc.symm]
  have hother : ∀ t, t ≠ c → amtF (fl ++ [f]) t = amtF fl t := fun t ht => by rw [amtF_append, amtF_one, if_neg (fun e => ht (by rw [← e, hc])), List.append_nil]
  obtain ⟨es, rfl, hp⟩ := h.is
  refine ⟨⟨_, rfl, (WideShapes.insert_perm _ _).trans ?_⟩, ?_, fun t => ?_, ?_⟩
  · rw [List.map_cons, hsame]
    refine List.Perm.cons _ ((hp.filter _).trans ?_)
    rw [List.filter_map]
    have e : ((fun p : Lit × DataW Unit => !p.1.sameKey (.string c)) ∘ fun t : Tx => (Lit.string t, gDat (amtF fl t))) = fun t : Tx => !(t == c) := by
      funext t
      show (!(Lit.string t).sameKey (.string c)) = _
      rw [sameT]
    rw [e]
    rw [List.map_congr_left (g := fun t => (Lit.string t, gDat (amtF (fl ++ [f]) t))) (fun t ht => ?_)]
    have := (List.mem_filter.1 ht).2
    rw [hother t (by simpa using this)]
  · rw [List.nodup_cons]
    refine ⟨fun hm => ?_, h.nd.sublist List.filter_sublist⟩
    have := (List.mem_filter.1 hm).2
    simp at this
  · rw [List.mem_cons, List.mem_filter]
    by_cases e : t = c
    · subst e
      exact ⟨fun _ => by rw [hsame]; simp, fun _ => .inl rfl⟩
    · rw [hother t e]
      constructor
      · rintro (h1 | ⟨h1, -⟩)
        · exact absurd h1 e
        · exact (h.all t).1 h1
      · exact fun h1 => .inr ⟨(h.all t).2 h1, by simpa using e⟩
  · rw [List.length_cons, List.length_append]
    exact Nat.succ_le_succ (Nat.le_trans (List.length_filter_le _ _) h.len)
/-- The currencies of flows, rising. -/
structure SrtOf (ks : List Tx) (fl : List Flw) : Prop where
  up : ks.Pairwise (fun x y => x < y)
  all : ∀ t, t ∈ ks ↔ ∃ f ∈ fl, f.coin.data.toList = t
theorem srt_ext : ∀ {l m : List Tx}, l.Pairwise (fun x y => x < y) → m.Pairwise (fun x y => x < y) → (∀ a, a ∈ l ↔ a ∈ m) → l = m
  | [], [], _, _, _ => rfl
  | [], b :: m, _, _, h => by have := (h b).2 (List.mem_cons_self ..); cases this
  | a :: l, [], _, _, h => by have := (h a).1 (List.mem_cons_self ..); cases this
  | a :: l, b :: m, hl, hm, h => by
    rw [List.pairwise_cons] at hl hm
    have hab : a = b := by
      rcases List.mem_cons.1 ((h a).1 (List.mem_cons_self ..)) with e | h1
      · exact e
      · rcases List.mem_cons.1 ((h b).2 (List.mem_cons_self ..)) with e | h2
        · exact e.symm
        · exact absurd (List.lt_trans (hl.1 b h2) (hm.1 a h1)) (List.lt_irrefl _)
    subst hab
    congr 1
    refine srt_ext hl.2 hm.2 (fun x => ?_)
    constructor
    · intro hxl
      rcases List.mem_cons.1 ((h x).1 (List.mem_cons_of_mem _ hxl)) with e | h1
      · subst e; exact absurd (hl.1 x hxl) (List.lt_irrefl _)
      · exact h1
    · intro hxm
      rcases List.mem_cons.1 ((h x).2 (List.mem_cons_of_mem _ hxm)) with e | h1
      · subst e; exact absurd (hm.1 x hxm) (List.lt_irrefl _)
      · exact h1
theorem SrtOf.uniq {ks ks' : List Tx} {fl : List Flw} (h : SrtOf ks fl) (h' : SrtOf ks' fl) : ks = ks' := srt_ext h.up h'.up (fun t => by rw [h.all, h'.all])
theorem MapK.srt {ks : List Tx} {fl : List Flw} {D : DataW Unit} (h : MapK ks fl D) {ss : List Tx} (hp : ss.Perm (Go.strKeys D)) : SrtOf (ss.mergeSort (fun x y => decide (x ≤ y))) fl ∧ ss.length = ks.length := by
  have hpk := hp.trans h.keys
  have hpm := (List.mergeSort_perm ss (fun x y => decide (x ≤ y))).trans hpk
  refine ⟨⟨?_, fun t => ?_⟩, hpk.length_eq⟩
  · have tr : ∀ a b c : Tx, decide (a ≤ b) = true → decide (b ≤ c) = true → decide (a ≤ c) = true := fun a b c h1 h2 => by simp only [decide_eq_true_eq] at *; exact List.le_trans h1 h2
    have hto : ∀ a b : Tx, (decide (a ≤ b) || decide (b ≤ a)) = true := fun a b => by simp only [Bool.or_eq_true, decide_eq_true_eq]; exact List.le_total a b
    have h1 := List.pairwise_mergeSort tr hto ss
    have h2 : (ss.mergeSort (fun x y => decide (x ≤ y))).Nodup := hpm.nodup_iff.2 h.nd
    refine (h1.and h2).imp (fun {a b} hab => ?_)
    have h3 : a ≤ b := by simpa using hab.1
    exact Classical.byContradiction (fun hn => hab.2 (List.le_antisymm h3 (List.not_lt.1 hn)))
  · rw [hpm.mem_iff, h.all, amtF_ne]
/-- What the sums are. -/
def totL (ks : List Tx) (fl : List Flw) : List Flw := ks.filterMap (fun t => if (amtF fl t).sum = 0 then none else some ⟨⟨t.toArray⟩, (amtF fl t).sum⟩)
theorem totL_take {ks : List Tx} {fl : List Flw} {k : Nat} {t : Tx} (h : ks[k]? = some t) : totL (ks.take (k + 1)) fl = totL (ks.take k) fl ++ (if (amtF fl t).sum = 0 then [] else [⟨⟨t.toArray⟩, (amtF fl t).sum⟩]) := by
  rw [take_snoc h]
  unfold totL
  rw [List.filterMap_append]
  congr 1
  by_cases h0 : (amtF fl t).sum = 0
  · rw [if_pos h0, List.filterMap_cons, if_pos h0]; rfl
  · rw [if_neg h0, List.filterMap_cons, if_neg h0]; rfl
theorem totL_len (ks : List Tx) (fl : List Flw) : (totL ks fl).length ≤ ks.length := List.length_filterMap_le ..
/-- What Total answers: the sums, or that one is beyond. -/
def TotV (fl out : List Flw) (b : Bool) : Prop := ∃ ks, SrtOf ks fl ∧ ((b = false ∧ out = [] ∧ ∃ t ∈ ks, fits64 (amtF fl t).sum = false) ∨ (b = true ∧ out = totL ks fl ∧ ∀ t ∈ ks, fits64 (amtF fl t).sum = true))
theorem TotV.uniq {fl out out' : List Flw} {b b' : Bool} (h : TotV fl out b) (h' : TotV fl out' b') : b = b' ∧ out = out' := by
  obtain ⟨ks, hs, h⟩ := h
  obtain ⟨ks', hs', h'⟩ := h'
  obtain rfl := hs.uniq hs'
  rcases h with ⟨rfl, rfl, t, ht, hf⟩ | ⟨rfl, rfl, hf⟩ <;> rcases h' with ⟨rfl, rfl, t', ht', hf'⟩ | ⟨rfl, rfl, hf'⟩
  · exact ⟨rfl, rfl⟩
  · rw [hf' t ht] at hf; cases hf
  · rw [hf t' ht'] at hf'; cases hf'
  · exact ⟨rfl, rfl⟩
end Go.Proofs.YtmiinmndbkdjbaaGreat

/- append of whatever slice; rows of texts. -/
namespace Go.Proofs.YtmiinmndbkdjbaaGreat
set_option linter.unusedVariables false
set_option linter.unusedSimpArgs false
open Go.RowKit
/-- append of whatever slice onto a row of the call's own: of nothing, too. -/
theorem ap_rowZ {P : Program} {w : World} {ops : Array Oper} {rest : List Oper} {o : Oper} {a : Act} {Q : Exit → Act → World → Prop} {t e : TypeId} {z : Value} {size bytes base : Nat}
    (hinfo : (P.info? e).map (fun i => (i.zero, i.size, i.bytes)) = some (some z, size, bytes)) (ht : P.underlying t = some (.slice e)) (hzs : z.cells.size = size) (hsz : 0 < size)
    (hgd : o.guard = none) (s x : Operand) (ho : o.op = .call { callee := .builtin .append, args := #[s, x], argTypes := #[t, t] })
    {v : Value} {n : Nat} {xs : List Value} (hs : a.eval s = v) (hown : w.ownsRow base e size v n xs) (hbase : base ≤ w.heap.size)
    (ao : Option Addr) (m c : Nat) (news : List Value) (hx : a.eval x = .slice ao m c) (hl : news.length = m * size)
    (hnews : 0 < m → ∃ ad, ao = some ad ∧ ∀ j u, news[j]? = some u → w.cell? (ad.add j) = some u) (h1 : ∀ u ∈ news, u.oneCell' = true)
    (h63 : n + m ≤ maxLen) (hbytes : (n + m) * bytes ≤ 140737488355328)
    (h : ∀ v' w', w'.ownsRow base e size v' (n + m) (xs ++ news) → w.grownBy w' v.ownBlock → (v'.ownBlock = v.ownBlock ∨ v'.ownBlock = some w.heap.size) → wpList P ops Q rest (a.put o.dst v') w') :
    wpList P ops Q (o :: rest) a w := by
  by_cases hm : m = 0
  · subst hm
    obtain ⟨i, hi, hz, hsize, hby⟩ := info_parts hinfo
    obtain ⟨av, capv, rfl⟩ := own_slice hown
    have hl0 : news = [] := List.length_eq_zero_iff.1 (by rw [hl, Nat.zero_mul])
    subst hl0
    have hcap : n ≤ capv := by
      rcases hown.2 with ⟨h1, h2⟩ | ⟨g, cap', cur, h1, h2, h3, h4, h5⟩
      · injection h1 with _ h1 h3; omega
      · injection h1 with _ h1 h3; omega
    have hsrc : Src P i.size t (.slice ao 0 c) 0 [] w := by
      cases ao with
      | none => exact Src.ofNil w ht c
      | some ad => exact Src.ofSlice w ht ad 0 c [] (by simp) (fun j u h => by cases h) (fun u h => by cases h)
    have hrun := run_append_nothing (P := P) w t t o.type e i ht hi av n capv hcap _ hsrc
    refine wpList_plain hgd fun _ hK => ?_
    unfold Oper.wp execOp
    simp only [ho, resolve, invoke, builtin, Sem.run_bind, Sem.run_pure, Result.andThen_ok, List.map_toArray, List.map_cons, List.map_nil, hs, hx, hrun]
    exact hK _ _ (h _ _ (by rw [List.append_nil]; exact hown) (World.grownBy.refl _ _) (.inl rfl))
  · obtain ⟨ad, rfl, hc⟩ := hnews (by omega)
    exact ap_row hinfo ht hzs hsz hgd s x ho hs hown hbase ad m c news hx hl hc h1 h63 hbytes h
theorem infoS : (Tryz.prog.info? 9).map (fun i => (i.zero, i.size, i.bytes)) = some (some (.string ⟨#[]⟩), 1, 16) := by kernel_rfl
theorem str_cells {w : World} {X : List Nat} {l : List (List UInt8)} {b o len cap : Nat} (h : SlR strK w X l (some ⟨b, o, none⟩) len cap) : ∀ j u, (l.map encStr)[j]? = some u → w.cell? ((⟨b, o, none⟩ : Addr).add j) = some u := by
  intro j u hu
  rw [List.getElem?_map] at hu
  cases hj : l[j]? with
  | none => rw [hj] at hu; cases hu
  | some s =>
    rw [hj] at hu
    injection hu with hu
    have hlt : j < len := by rw [← h.facts.1]; exact (List.getElem?_eq_some_iff.1 hj).1
    obtain ⟨b', o', s', cs, ha, -, -, hs, hR, -, hc⟩ := h.at j hlt
    injection ha with ha; injection ha with h1 h2; subst h1; subst h2
    rw [hj] at hs; injection hs with hs; subst hs
    have hR' : cs = [encStr s] := hR
    subst hR'
    have := hc 0 _ rfl
    rw [Mem.add_off]
    rw [← hu]
    simpa [strK] using this
theorem enc_one (l : List (List UInt8)) : ∀ u ∈ l.map encStr, u.oneCell' = true := by
  intro u hu
  obtain ⟨s, -, rfl⟩ := List.mem_map.1 hu
  simp [encStr, Value.oneCell']
/-- A row of texts of the call's own, as a slice. -/
theorem own_strs {w0 w : World} {v : Value} {n : Nat} {l : List (List UInt8)} (h : w.ownsRow w0.heap.size 9 1 v n (l.map encStr)) (hl : l.length = n) (hb : Below w0.heap.size w0 w) {X : List Nat} (hX : ∀ b ∈ X, b < w0.heap.size) :
    ∃ a cap, v = .slice a n cap ∧ SlR strK w X l a n cap := by
  have hfl : ∀ l : List (List UInt8), (l.map (fun s => [encStr s])).flatten = l.map encStr := fun l => by induction l with | nil => rfl | cons x t ih => simp [ih]
  have h' := h
  rw [← hfl] at h'
  obtain ⟨a, c, rfl, hsl, -⟩ := own_sl (w0 := w0) (X := X) ⟨hb, h'⟩ (by rw [List.length_map, hl]) (fun c hc => by obtain ⟨s, _, rfl⟩ := List.mem_map.1 hc; rfl) hX
  refine ⟨a, c, rfl, ⟨l.map (fun s => [encStr s]), by rw [List.length_map], fun i x cs hx hc => ?_, hsl⟩⟩
  rw [List.getElem?_map, hx] at hc
  injection hc with hc; exact hc.symm
end Go.Proofs.YtmiinmndbkdjbaaGreat

/- The contract of num.Sum. -/
namespace Go.Proofs.YtmiinmndbkdjbaaGreat
set_option linter.unusedVariables false
set_option linter.unusedSimpArgs false
open Go.RowKit
theorem add64_law (x y c : Nat) (hc : c ≤ 1) (w : World) :
    (callFunc 71 #[.int .u64 x, .int .u64 y, .int .u64 c]).run Tryz.prog w =
      .ok (.value (.tuple #[.int .u64 (((x + y + c) % 18446744073709551616 : Nat) : Int), .int .u64 (((x + y + c) / 18446744073709551616 : Nat) : Int)])) w := by
  rw [run_callFunc_extern Tryz.func71 (by kernel_rfl) (by kernel_rfl) (by kernel_rfl) (e := add64Entry) (by kernel_rfl), run_add64 x y c (by omega) (by omega) (by omega) (by omega)]
  simp only [Result.andThen]
  congr 5 <;> omega
theorem uw_wrap (n : Int) : IntKind.u64.wrap n = ((uw n : Nat) : Int) := by
  have : IntKind.u64.wrap n = n % 18446744073709551616 := by simp [IntKind.wrap, IntKind.bits, IntKind.signed]
  rw [this]; unfold uw; omega
theorem sw_wrap (n : Int) (h : I64 n) : IntKind.u64.wrap (n / 9223372036854775808) = ((sw n : Nat) : Int) := by
  have e : IntKind.u64.wrap (n / 9223372036854775808) = (n / 9223372036854775808) % 18446744073709551616 := by simp [IntKind.wrap, IntKind.bits, IntKind.signed]
  rw [e]; unfold sw; unfold I64 at h; split <;> omega
theorem low_wrap (lo : Nat) (h : lo < 18446744073709551616) : IntKind.i64.wrap (lo : Int) = lowI lo := by
  rw [IntKind.wrap_i64]; unfold lowI; split <;> omega
/-- Amounts in a row. -/
def IntsAt (w : World) (l : List Int) (a : Option Addr) (len : Nat) : Prop := l.length = len ∧ (∀ (k : Nat) n, l[k]? = some n → I64 n ∧ ∃ b o, a = some ⟨b, o, none⟩ ∧ w.cell? ⟨b, o + k, none⟩ = some (.int .i64 n))
set_option maxRecDepth 100000 in
set_option maxHeartbeats 4000000 in
theorem sum_any (l : List Int) (a : Option Addr) (len cap : Nat) (w : World) (h : IntsAt w l a len) (hlen : len ≤ 1000000000) :
    Calls Tryz.prog 44 #[.slice a len cap] w fun e w' => e = .returned (.tuple #[.int .i64 (if fits64 l.sum then l.sum else 0), .bool (fits64 l.sum)]) ∧ w = w' := by
  have HH := Lib.hid h
  have HLN := Lib.hid hlen
  obtain ⟨R, hR⟩ : ∃ R, R = (if fits64 l.sum then l.sum else 0) := ⟨_, rfl⟩
  obtain ⟨Q, hQ⟩ : ∃ Q, Q = fits64 l.sum := ⟨_, rfl⟩
  have HR := Lib.hid hR
  have HQ := Lib.hid hQ
  rw [← hR, ← hQ]
  clear h hR hQ
  go_enter Tryz.func44, Tryz.ntmps44
  go_wp2_with fail
  go_loopw [4, 5, 11] (fun hi lo i wr => ∃ (k H L : Nat), hi = .int .u64 (H : Nat) ∧ lo = .int .u64 (L : Nat) ∧ i = .int .i64 (k : Nat) ∧ k ≤ len ∧ wr = w ∧ Hid (Two64 (l.take k).sum H L)) (fun _ _ i _ => len - (intOf i).toNat)
  case atStart => exact ⟨0, 0, 0, rfl, rfl, rfl, Nat.zero_le _, rfl, Two64.nil⟩
  case round =>
    obtain ⟨k, H, L, rfl, rfl, rfl, hk, rfl, HT⟩ := hrel
    by_cases hlt : k < len
    · have hlt' : (k : Int) < (len : Int) := by omega
      have i0 : (0 : Int) ≤ (k : Int) := by omega
      have i1 : (k : Int) ≤ 1000000000 := by have := HLN.out; omega
      obtain ⟨n, hn⟩ : ∃ n, l[k]? = some n := ⟨_, List.getElem?_eq_getElem (by rw [HH.out.1]; exact hlt)⟩
      obtain ⟨hin, b, o, rfl, hc⟩ := HH.out.2 k n hn
      have HN := Lib.hid hn
      have HI := Lib.hid hin
      have e1 := uw_wrap n
      have e2 := sw_wrap n hin
      have hl1 : ∀ w, (callFunc 71 #[.int .u64 (L : Nat), .int .u64 (uw n : Nat), .int .u64 0]).run Tryz.prog w = .ok (.value (.tuple #[.int .u64 (((L + uw n + 0) % 18446744073709551616 : Nat) : Int), .int .u64 (((L + uw n + 0) / 18446744073709551616 : Nat) : Int)])) w := add64_law L (uw n) 0 (by omega)
      have hcar : (L + uw n + 0) / 18446744073709551616 ≤ 1 := by have := HT.out.lt; have : uw n < 18446744073709551616 := (by unfold uw; omega); omega
      have hl2 := add64_law H (sw n) ((L + uw n + 0) / 18446744073709551616) hcar
      have HT2 := Lib.hid (HT.out.add HI.out)
      rw [← sum_take HN.out] at HT2
      obtain ⟨L', hL'⟩ : ∃ x, x = (L + uw n + 0) % 18446744073709551616 := ⟨_, rfl⟩
      obtain ⟨C, hC⟩ : ∃ x, x = (L + uw n + 0) / 18446744073709551616 := ⟨_, rfl⟩
      obtain ⟨H', hH'⟩ : ∃ x, x = (H + sw n + C) % 18446744073709551616 := ⟨_, rfl⟩
      rw [← hC] at hl1 hl2 HT2
      rw [← hL'] at hl1 HT2
      rw [← hH'] at hl2 HT2
      clear hn hin hL' hC hH' hcar HN
      go_upto_region 6 with (fail)
      go_wp2_with (simp only [e1, e2, hl1, hl2])
      go_roundw
      case rel => exact ⟨k + 1, H', L', rfl, rfl, by go_num, by omega, trivial, HT2.out⟩
      case measure => simp [intOf]; omega
    · have hlt' : ¬ (k : Int) < (len : Int) := by omega
      have ht : l.take k = l := List.take_of_length_le (by rw [HH.out.1]; omega)
      rw [ht] at HT
      have hlw := low_wrap L HT.out.lt.2
      have hbd : -170141183460469231731687303715884105728 ≤ l.sum ∧ l.sum < 170141183460469231731687303715884105728 := by
        have h1 := sum_bound l (fun n hn => by
          obtain ⟨j, hj⟩ := List.getElem?_of_mem hn
          exact (HH.out.2 j n hj).1)
        have h2 := HH.out.1
        have h3 := HLN.out
        rw [h2] at h1
        omega
      have hfit := HT.out.fit hbd
      have HV := Lib.hid (HT.out.val)
      have hsw := sw_wrap (lowI L) (by have := HT.out.lt.2; unfold I64 lowI; split <;> omega)
      obtain ⟨LL, hLL⟩ : ∃ x, x = lowI L := ⟨_, rfl⟩
      rw [← hLL] at hlw hfit HV hsw
      obtain ⟨SW, hSW⟩ : ∃ x, x = sw LL := ⟨_, rfl⟩
      rw [← hSW] at hfit hsw
      clear hLL hSW ht hbd
      by_cases hf : H = SW
      · have hne : ((H : Int) != (SW : Int)) = false := by rw [bne_eq_false_iff_eq]; omega
        have hT := hfit.1 hf
        have hq : fits64 l.sum = true := by unfold fits64; rw [decide_eq_true hT.1, decide_eq_true hT.2]; rfl
        have HX : Hid (R = LL ∧ Q = true) := ⟨by rw [HR.out, hq, if_pos rfl]; exact (HV.out hT).symm, by rw [HQ.out, hq]⟩
        clear hfit HV hf hT hq HR HQ HT
        go_wp2_with (simp only [hlw, hsw])
        go_ret2
        exact ⟨by rw [HX.out.1, HX.out.2]; rfl, rfl⟩
      · have hne : ((H : Int) != (SW : Int)) = true := by rw [bne_iff_ne]; omega
        have hq : fits64 l.sum = false := by
          cases hq : fits64 l.sum with
          | false => rfl
          | true =>
            unfold fits64 at hq
            rw [Bool.and_eq_true, decide_eq_true_iff, decide_eq_true_iff] at hq
            exact absurd (hfit.2 hq) hf
        have HX : Hid (R = 0 ∧ Q = false) := ⟨by rw [HR.out, hq]; rfl, by rw [HQ.out, hq]⟩
        clear hfit HV hf hq HR HQ HT
        go_wp2_with (simp only [hlw, hsw])
        go_ret2
        exact ⟨by rw [HX.out.1, HX.out.2]; rfl, rfl⟩
end Go.Proofs.YtmiinmndbkdjbaaGreat

/- Flows in memory; a map of slices of numbers: the look-up in every world that has the map. -/
namespace Go.Proofs.YtmiinmndbkdjbaaGreat
set_option linter.unusedVariables false
set_option linter.unusedSimpArgs false
open Go.RowKit Go.ChangeShapes
def outF (l : List Flw) : List Value := (l.map flC).flatten
theorem outF_append (a b : List Flw) : outF (a ++ b) = outF a ++ outF b := by unfold outF; rw [List.map_append, List.flatten_append]
theorem outF_one (a : Flw) : outF [a] = flC a := by unfold outF; simp
theorem outF_any {t : TypeId} {w0 w : World} {v : Value} {l : List Flw} (h : w.ownsRow w0.heap.size t 2 v l.length (outF l)) (hb : Below w0.heap.size w0 w) (hok : ∀ a ∈ l, FlOk a) : ∃ a c, v = .slice a l.length c ∧ SlR flK w [] l a l.length c := by
  obtain ⟨a, c, rfl, hsl, -⟩ := own_sl (w0 := w0) (X := []) ⟨hb, h⟩ (by rw [List.length_map]) (fun c hc => by obtain ⟨s, _, rfl⟩ := List.mem_map.1 hc; rfl) (fun b hb => by cases hb)
  refine ⟨a, c, rfl, ⟨l.map flC, by rw [List.length_map], fun i x cs hx hc => ?_, hsl⟩⟩
  rw [List.getElem?_map, hx] at hc
  injection hc with hc
  exact ⟨hc.symm, hok x (List.mem_of_getElem? hx)⟩
theorem infoRF : (Tryz.prog.info? 67).map (fun i => (i.zero, i.size, i.bytes)) = some (some (.agg #[.string ⟨#[]⟩, .int .i64 0]), 2, 24) := by kernel_rfl
theorem infoI8 : (Tryz.prog.info? 2).map (fun i => (i.zero, i.size, i.bytes)) = some (some (.int .i64 0), 1, 8) := by kernel_rfl
theorem zeroI64s (w : World) : (zeroValue 113).run Tryz.prog w = .ok (.slice none 0 0) w := by kernel_rfl
theorem grownT {w w' : World} {row : Option Nat} (b : Below w.heap.size w w') : w.grownBy w' row := ⟨b.os, b.tape, b.output, b.size, fun i hi _ => b.block i hi⟩
theorem blkRowT {w : World} {g base sz n : Nat} {t e : TypeId} {cs : Array Value} {v : Value} {xs : List Value} (h : Mem.Blk w g t cs) (h' : w.ownsRow base e sz v n xs) (ht : t ≠ e) (hg : v.ownBlock = some g) : False := by
  rcases h'.2 with ⟨rfl, _⟩ | ⟨a, cap, cur, rfl, _, h1, _⟩
  · cases hg
  · simp only [Value.ownBlock, Option.some.injEq] at hg
    rw [hg] at h1
    unfold Mem.Blk at h
    rw [h] at h1
    injection h1 with h1
    injection h1 with _ h1
    exact ht h1
theorem blk_grownT {w w' : World} {g : Nat} {t : TypeId} {cs : Array Value} {row : Option Nat} (h : Mem.Blk w g t cs) (k : w.grownBy w' row) (hne : row ≠ some g) : Mem.Blk w' g t cs := by
  have hb := k.block g h.lt (fun e => hne e.symm)
  unfold Mem.Blk at h ⊢
  rw [hb]; exact h
theorem ints_rowT {base : Nat} {w : World} {L : List Int} {a : Option Addr} {c : Nat} (hr : w.ownsRow base 2 1 (.slice a L.length c) L.length (L.map (Value.int .i64))) (hI : ∀ n ∈ L, I64 n) : IntsAt w L a L.length := by
  refine ⟨rfl, fun j n hj => ⟨hI n (List.mem_of_getElem? hj), ?_⟩⟩
  have hjl := (List.getElem?_eq_some_iff.1 hj).1
  obtain ⟨g, cap, hv, -⟩ := own_form hr (by omega)
  injection hv with e1 _ e3
  subst e1; subst e3
  refine ⟨g, 0, rfl, ?_⟩
  rw [Nat.zero_add, hr.cellAt j (by omega), List.getElem?_map, hj]; rfl
/-- The look-up, the same wherever the map's block is the same. -/
theorem groups_look {P : Program} {k : TypeId} {base : Nat} {e : TypeId} {q : IntKind} {b n : Nat} {D : DataW Unit} {w : World} {t E : TypeId} {key : Value} {kl : Lit} (h : w.ownsGroups P k base e q b n D) (K : Maps.Keyed P k) (ht : P.underlying t = some (.map k E)) (hz : ∀ W, (zeroValue E).run P W = .ok (.slice none 0 0) W) (hn : n < maxLen) (hkey : keyOf P k key = some kl) :
    ∃ v zs, (∀ W : World, W.heap[b]? = w.heap[b]? → (Instr.lookup t (.map (some b)) key false).run P W = .ok v W) ∧ D.atKey kl .nil = rowDatum q v zs ∧ w.ownsInts base e q v zs ∧ zs.length ≤ n ∧ w.groupBack P t k base e q b n D key kl v := by
  obtain ⟨v, zs, hrun, h1, h2, h3, h4⟩ := h.at K ht (hz w) hn hkey
  refine ⟨v, zs, fun W hW => ?_, h1, h2, h3, h4⟩
  obtain ⟨es, clock, hb, F, -⟩ := h
  have hb' := hW.trans hb
  rcases Maps.fit_look false K ht (hz w) hb F hkey with ⟨r1, n1, -⟩ | ⟨e1, y1, m1, k1, r1, -⟩ <;> rcases Maps.fit_look false K ht (hz W) hb' F hkey with ⟨r2, n2, -⟩ | ⟨e2, y2, m2, k2, r2, -⟩
  · rw [hrun] at r1
    injection r1 with r1
    rw [r1]; exact r2
  · exact absurd k2 (n1 e2 m2)
  · exact absurd k1 (n2 e1 m1)
  · have hd : es.toList.Pairwise (fun x y => x.key ≠ y.key) := ((MapKept.stamped_iff es clock).1 F.stamped).2.2
    have he : e1 = e2 := by
      obtain ⟨i, hi⟩ := List.getElem?_of_mem m1
      obtain ⟨j, hj⟩ := List.getElem?_of_mem m2
      obtain ⟨hi1, hi2⟩ := List.getElem?_eq_some_iff.1 hi
      obtain ⟨hj1, hj2⟩ := List.getElem?_eq_some_iff.1 hj
      rcases Nat.lt_trichotomy i j with q | q | q
      · have := List.pairwise_iff_getElem.1 hd i j hi1 hj1 q
        rw [hi2, hj2, k1, k2] at this; exact absurd rfl this
      · subst q; rw [hi] at hj; exact Option.some.inj hj
      · have := List.pairwise_iff_getElem.1 hd j i hj1 hi1 q
        rw [hi2, hj2, k1, k2] at this; exact absurd rfl this
    rw [hrun] at r1
    injection r1 with r1
    rw [r1, he]; exact r2
/-- The groups stay where nothing of theirs is turned. -/
theorem groups_below {P : Program} {k : TypeId} {base : Nat} {e : TypeId} {q : IntKind} {b n : Nat} {D : DataW Unit} {w w' : World} (h : w.ownsGroups P k base e q b n D) (hb : Below w.heap.size w w') : w'.ownsGroups P k base e q b n D :=
  h.kept (row := none) (grownT hb) (by simp) (fun es clock _ x _ => by cases x.val.ownBlock <;> simp)
theorem groups_grown {P : Program} {k : TypeId} {base base' : Nat} {e e' : TypeId} {q : IntKind} {b n sz m : Nat} {D : DataW Unit} {w w' : World} {u : Value} {xs : List Value} (h : w.ownsGroups P k base e q b n D) (ho : w.ownsRow base' e' sz u m xs) (hne : e ≠ e') (g : w.grownBy w' u.ownBlock) : w'.ownsGroups P k base e q b n D := by
  have h' := h
  obtain ⟨es, clock, hb, F, -⟩ := h'
  refine h.kept g (fun e1 => ?_) (fun es2 clock2 hb2 x hx => ?_)
  · rcases ho.2 with ⟨rfl, _⟩ | ⟨g, cap, cur, rfl, _, h1, _⟩
    · cases e1
    · simp only [Value.ownBlock, Option.some.injEq] at e1
      rw [← e1, hb] at h1
      cases h1
  · obtain ⟨rfl, rfl⟩ : es2 = es ∧ clock2 = clock := by rw [hb] at hb2; simp at hb2; exact ⟨hb2.1.symm, hb2.2.symm⟩
    obtain ⟨y, hy⟩ := F.reads x hx
    obtain ⟨z, hz, _⟩ := WideElems.rd_val hy
    obtain ⟨zs, hoi, _⟩ := rowElem_inv hz
    cases hx' : x.val.ownBlock with
    | none => exact .inl rfl
    | some j =>
      refine .inr (fun e1 => ?_)
      rcases hoi.1.2 with ⟨e2, _⟩ | ⟨g1, cap1, cur1, e2, _, h2, _⟩
      · rw [e2] at hx'; cases hx'
      · rw [e2] at hx'
        simp only [Value.ownBlock, Option.some.injEq] at hx'
        rcases ho.2 with ⟨rfl, _⟩ | ⟨g3, cap, cur, rfl, _, h1, _⟩
        · cases e1
        · simp only [Value.ownBlock, Option.some.injEq] at e1
          rw [hx', e1] at h2
          rw [h1] at h2
          injection h2 with h2
          injection h2 with _ h2
          exact hne h2.symm
theorem groups_lt {P : Program} {k : TypeId} {base : Nat} {e : TypeId} {q : IntKind} {b n : Nat} {D : DataW Unit} {w : World} (h : w.ownsGroups P k base e q b n D) : b < w.heap.size := by
  obtain ⟨es, clock, hb, -⟩ := h
  exact (Array.getElem?_eq_some_iff.1 hb).1
theorem groups_map {P : Program} {k : TypeId} {base : Nat} {e : TypeId} {q : IntKind} {b n : Nat} {D : DataW Unit} {w : World} (h : w.ownsGroups P k base e q b n D) : w.ownsMap P k (rowElem w base e q) b n D := by
  obtain ⟨es, clock, hb, F, hs, hD, -⟩ := h
  exact ⟨es, clock, hb, F, hs, hD⟩
end Go.Proofs.YtmiinmndbkdjbaaGreat

/- slices.Sorted(maps.Keys(m)) at any map of strings: a new slice of its keys, in order. -/
namespace Go.Proofs.YtmiinmndbkdjbaaGreat
set_option linter.unusedVariables false
set_option linter.unusedSimpArgs false
open Go Go.RowKit Go.Maps Go.Sort Go.Shelf
def keys43_ren : Shelf.Ren := { f := fun x => match x with | 7 => 43 | 10 => 70 | n => n, t := fun x => match x with | 23 => 112 | 26 => 9 | 3 => 113 | 28 => 117 | 0 => 0 | 27 => 116 | 33 => 130 | 4 => 4 | n => n, g := fun x => x }
theorem keys43 : SlLaysZ.n7 Tryz.prog keys43_ren :=
  { mixed := by kernel_rfl,
    f7 := ⟨"maps.Keys[map[string][]int64,string,[]int64]", by decide, (Tryz.func43).trans (congrArg some (by kernel_rfl))⟩,
    f10 := ⟨"maps.Keys[map[string][]int64,string,[]int64]$1", by decide, (Tryz.func70).trans (congrArg some (by kernel_rfl))⟩,
    t0 := Tryz.underlying0,
    a0 := Tryz.isAgg0,
    z0 := Tryz.sizeOf0,
    v0 := Tryz.zeroValue0,
    t4 := Tryz.underlying4,
    a4 := Tryz.isAgg4,
    z4 := Tryz.sizeOf4,
    v4 := Tryz.zeroValue4,
    t23 := Tryz.underlying112,
    a23 := Tryz.isAgg112,
    z23 := Tryz.sizeOf112,
    v23 := Tryz.zeroValue112,
    t26 := Tryz.underlying9,
    a26 := Tryz.isAgg9,
    z26 := Tryz.sizeOf9,
    v26 := Tryz.zeroValue9,
    t27 := Tryz.underlying116,
    a27 := Tryz.isAgg116,
    z27 := Tryz.sizeOf116,
    v27 := Tryz.zeroValue116,
    t28 := Tryz.underlying117,
    a28 := Tryz.isAgg117,
    z28 := Tryz.sizeOf117,
    v28 := Tryz.zeroValue117,
    t33 := Tryz.underlying130,
    a33 := Tryz.isAgg130,
    z33 := Tryz.sizeOf130,
    v33 := Tryz.zeroValue130 }
def sorted42_ren : Shelf.Ren := { f := fun x => match x with | 6 => 42 | 8 => 68 | 9 => 69 | 11 => 93 | 13 => 95 | 12 => 94 | 23 => 120 | 24 => 121 | 14 => 111 | 15 => 112 | 16 => 113 | 17 => 114 | 18 => 115 | 19 => 116 | 20 => 117 | 21 => 118 | 22 => 119 | 25 => 135 | 26 => 136 | 27 => 137 | 28 => 138 | 29 => 139 | 30 => 140 | 31 => 147 | n => n, t := fun x => match x with | 26 => 9 | 28 => 117 | 24 => 114 | 0 => 0 | 3 => 3 | 37 => 101 | 48 => 184 | 50 => 141 | 4 => 4 | 40 => 177 | 39 => 176 | 45 => 136 | 5 => 5 | 9 => 9 | 51 => 196 | 55 => 200 | 57 => 203 | 58 => 79 | 33 => 130 | n => n, g := fun x => x }
theorem sorted42 : SlLaysZ.n6 Tryz.prog sorted42_ren :=
  { mixed := by kernel_rfl,
    f6 := ⟨"slices.Sorted[string]", by decide, (Tryz.func42).trans (congrArg some (by kernel_rfl))⟩,
    f8 := ⟨"slices.Collect[string]", by decide, (Tryz.func68).trans (congrArg some (by kernel_rfl))⟩,
    f11 := ⟨"slices.AppendSeq[[]string,string]", by decide, (Tryz.func93).trans (congrArg some (by kernel_rfl))⟩,
    t0 := Tryz.underlying0,
    a0 := Tryz.isAgg0,
    z0 := Tryz.sizeOf0,
    v0 := Tryz.zeroValue0,
    t24 := Tryz.underlying114,
    a24 := Tryz.isAgg114,
    z24 := Tryz.sizeOf114,
    v24 := Tryz.zeroValue114,
    t26 := Tryz.underlying9,
    a26 := Tryz.isAgg9,
    z26 := Tryz.sizeOf9,
    v26 := Tryz.zeroValue9,
    t28 := Tryz.underlying117,
    a28 := Tryz.isAgg117,
    z28 := Tryz.sizeOf117,
    v28 := Tryz.zeroValue117,
    i26 := by kernel_rfl }
def sort69_ren : Shelf.Ren := { f := fun x => match x with | 6 => 69 | 8 => 95 | 9 => 94 | 19 => 120 | 20 => 121 | 21 => 111 | 22 => 112 | 23 => 113 | 24 => 114 | 25 => 115 | 26 => 116 | 27 => 117 | 28 => 118 | 29 => 119 | 36 => 135 | 31 => 136 | 32 => 137 | 37 => 138 | 38 => 139 | 39 => 140 | 41 => 147 | n => n, t := fun x => match x with | 27 => 114 | 29 => 9 | 3 => 3 | 32 => 101 | 26 => 114 | 0 => 0 | 44 => 184 | 46 => 141 | 4 => 4 | 36 => 177 | 35 => 176 | 41 => 136 | 5 => 5 | 9 => 9 | 53 => 196 | 57 => 200 | 63 => 203 | 64 => 79 | n => n, g := fun x => x }
theorem sort69 : SlLaysM.n6 Tryz.prog sort69_ren :=
  { mixed := by kernel_rfl,
    f6 := ⟨"slices.Sort[[]string,string]", by decide, (Tryz.func69).trans (congrArg some (by kernel_rfl))⟩,
    f8 := (Tryz.func95).trans (congrArg some (by kernel_rfl)),
    f9 := ⟨"slices.pdqsortOrdered[string]", by decide, (Tryz.func94).trans (congrArg some (by kernel_rfl))⟩,
    f19 := (Tryz.func120).trans (congrArg some (by kernel_rfl)),
    f20 := (Tryz.func121).trans (congrArg some (by kernel_rfl)),
    f21 := ⟨"slices.insertionSortOrdered[string]", by decide, (Tryz.func111).trans (congrArg some (by kernel_rfl))⟩,
    f22 := ⟨"slices.heapSortOrdered[string]", by decide, (Tryz.func112).trans (congrArg some (by kernel_rfl))⟩,
    f23 := ⟨"slices.breakPatternsOrdered[string]", by decide, (Tryz.func113).trans (congrArg some (by kernel_rfl))⟩,
    f24 := ⟨"slices.choosePivotOrdered[string]", by decide, (Tryz.func114).trans (congrArg some (by kernel_rfl))⟩,
    f25 := ⟨"slices.reverseRangeOrdered[string]", by decide, (Tryz.func115).trans (congrArg some (by kernel_rfl))⟩,
    f26 := ⟨"slices.partialInsertionSortOrdered[string]", by decide, (Tryz.func116).trans (congrArg some (by kernel_rfl))⟩,
    f27 := ⟨"cmp.Less[string]", by decide, (Tryz.func117).trans (congrArg some (by kernel_rfl))⟩,
    f28 := ⟨"slices.partitionEqualOrdered[string]", by decide, (Tryz.func118).trans (congrArg some (by kernel_rfl))⟩,
    f29 := ⟨"slices.partitionOrdered[string]", by decide, (Tryz.func119).trans (congrArg some (by kernel_rfl))⟩,
    f31 := (Tryz.func136).trans (congrArg some (by kernel_rfl)),
    f32 := (Tryz.func137).trans (congrArg some (by kernel_rfl)),
    f36 := ⟨"slices.siftDownOrdered[string]", by decide, (Tryz.func135).trans (congrArg some (by kernel_rfl))⟩,
    f37 := ⟨"slices.medianAdjacentOrdered[string]", by decide, (Tryz.func138).trans (congrArg some (by kernel_rfl))⟩,
    f38 := ⟨"slices.medianOrdered[string]", by decide, (Tryz.func139).trans (congrArg some (by kernel_rfl))⟩,
    f39 := ⟨"cmp.isNaN[string]", by decide, (Tryz.func140).trans (congrArg some (by kernel_rfl))⟩,
    f41 := ⟨"slices.order2Ordered[string]", by decide, (Tryz.func147).trans (congrArg some (by kernel_rfl))⟩,
    t0 := Tryz.underlying0,
    a0 := Tryz.isAgg0,
    z0 := Tryz.sizeOf0,
    v0 := Tryz.zeroValue0,
    t3 := Tryz.underlying3,
    a3 := Tryz.isAgg3,
    z3 := Tryz.sizeOf3,
    v3 := Tryz.zeroValue3,
    t4 := Tryz.underlying4,
    a4 := Tryz.isAgg4,
    z4 := Tryz.sizeOf4,
    v4 := Tryz.zeroValue4,
    t5 := Tryz.underlying5,
    a5 := Tryz.isAgg5,
    z5 := Tryz.sizeOf5,
    v5 := Tryz.zeroValue5,
    t9 := Tryz.underlying9,
    a9 := Tryz.isAgg9,
    z9 := Tryz.sizeOf9,
    v9 := Tryz.zeroValue9,
    t26 := Tryz.underlying114,
    a26 := Tryz.isAgg114,
    z26 := Tryz.sizeOf114,
    v26 := Tryz.zeroValue114,
    t27 := Tryz.underlying114,
    a27 := Tryz.isAgg114,
    z27 := Tryz.sizeOf114,
    v27 := Tryz.zeroValue114,
    t29 := Tryz.underlying9,
    a29 := Tryz.isAgg9,
    z29 := Tryz.sizeOf9,
    v29 := Tryz.zeroValue9,
    t32 := Tryz.underlying101,
    a32 := Tryz.isAgg101,
    z32 := Tryz.sizeOf101,
    v32 := Tryz.zeroValue101,
    t35 := Tryz.underlying176,
    a35 := Tryz.isAgg176,
    z35 := Tryz.sizeOf176,
    v35 := Tryz.zeroValue176,
    t36 := Tryz.underlying177,
    a36 := Tryz.isAgg177,
    z36 := Tryz.sizeOf177,
    v36 := Tryz.zeroValue177,
    t41 := Tryz.underlying136,
    a41 := Tryz.isAgg136,
    z41 := Tryz.sizeOf136,
    v41 := Tryz.zeroValue136,
    t44 := Tryz.underlying184,
    a44 := Tryz.isAgg184,
    z44 := Tryz.sizeOf184,
    v44 := Tryz.zeroValue184,
    t46 := Tryz.underlying141,
    a46 := Tryz.isAgg141,
    z46 := Tryz.sizeOf141,
    v46 := Tryz.zeroValue141,
    t53 := Tryz.underlying196,
    a53 := Tryz.isAgg196,
    z53 := Tryz.sizeOf196,
    v53 := Tryz.zeroValue196,
    t57 := Tryz.underlying200,
    a57 := Tryz.isAgg200,
    z57 := Tryz.sizeOf200,
    v57 := Tryz.zeroValue200,
    t63 := Tryz.underlying203,
    a63 := Tryz.isAgg203,
    z63 := Tryz.sizeOf203,
    v63 := Tryz.zeroValue203,
    t64 := Tryz.underlying79,
    a64 := Tryz.isAgg79,
    z64 := Tryz.sizeOf79,
    v64 := Tryz.zeroValue79 }
/-- maps.Keys at whatever map. -/
theorem mapKeys_int64 (mb : Option Nat) (W : World) : Calls Tryz.prog 43 #[.map mb] W fun e w' => e = .returned (.func (.func 70) #[] #[.pointer (some ⟨W.heap.size, 0, none⟩)]) ∧ w' = W.alloc (.cells #[.map mb] 112) :=
  callsIn_wide.1 (AnyZ.keys_in keys43 Fence.wide 5 trivial rfl mb W)
theorem sorts_42 (m : Nat) : AnyZ.SortsIn Tryz.prog sorted42_ren Fence.wide m :=
  ⟨fun blk off cap ss W hH hblk hsz => callsIn_wide.2 (AnyM.slices_Sort_string sort69 blk off cap ss W hH hblk hsz),
   fun p cap W => callsIn_wide.2 (AnyM.slices_Sort_string_none sort69 p cap W)⟩
/-- slices.Sorted at the keys of a map that isn't nil. -/
theorem sortedKeys_int64 {H : Type} (p b nn : Nat) (D0 : DataW H) (R : Value → Option (DataW H × List MemPlace)) (w : World) (hp : p < w.heap.size) (hc : w.cell? ⟨p, 0, none⟩ = some (.map (some b))) (hown : w.ownsMap Tryz.prog 9 R b nn D0) (hmax : Maps.size D0 ≤ maxLen) (hbytes : Maps.size D0 * 16 ≤ 140737488355328) :
    Calls Tryz.prog 42 #[.func (.func 70) #[] #[.pointer (some ⟨p, 0, none⟩)]] w fun e w' => ∃ (v : Value) (ss : List (List UInt8)), e = .returned v ∧ ss.Perm (strKeys D0) ∧
      w'.ownsRow w.heap.size 9 1 v ss.length ((ss.mergeSort (fun x y => decide (x ≤ y))).map encStr) ∧ (v = .slice none 0 0 ↔ ss = []) ∧ Below w.heap.size w w' :=
  callsIn_wide.1 (AnyZ.sorted_in sorted42 Fence.wide 5 trivial trivial trivial trivial rfl (by omega) (sorts_42 _) (enters_of Tryz.func69 (by kernel_rfl) rfl) 70 #[.pointer (some ⟨p, 0, none⟩)] trivial (enters_of Tryz.func70 (by kernel_rfl) rfl) _ _ hmax hbytes _
    (AnyZ.keys_gives (ρ := keys43_ren) { keys43 with } Fence.wide _ trivial rfl (by omega) p b nn D0 _ hp hc hown))
end Go.Proofs.YtmiinmndbkdjbaaGreat

/- life.Total: the map filled, walked. -/
namespace Go.Proofs.YtmiinmndbkdjbaaGreat
set_option linter.unusedVariables false
set_option linter.unusedSimpArgs false
open Go.RowKit Go.ChangeShapes
/-- Where the gathering stands. -/
structure TgSt (w wr : World) (mb k : Nat) (fl : List Flw) : Prop where
  gr : ∃ ks D, wr.ownsGroups Tryz.prog 9 (mb + 1) 2 .i64 mb k D ∧ MapK ks fl D
  bel : Below w.heap.size w wr
  lo : w.heap.size ≤ mb
theorem TgSt.hi {w wr : World} {mb k : Nat} {fl : List Flw} (h : TgSt w wr mb k fl) : mb < wr.heap.size := by
  obtain ⟨ks, D, h, -⟩ := h.gr
  exact groups_lt h
theorem TgSt.below {w wr w' : World} {mb k : Nat} {fl : List Flw} (h : TgSt w wr mb k fl) (b : Below wr.heap.size wr w') : TgSt w w' mb k fl := by
  obtain ⟨ks, D, h1, h2⟩ := h.gr
  exact ⟨⟨ks, D, groups_below h1 b, h2⟩, h.bel.trans (b.mono h.bel.size), h.lo⟩
/-- One flow more. -/
theorem TgSt.next {w w3 : World} {mb k : Nat} {fl : List Flw} (h : TgSt w w3 mb k fl) (f : Flw) (hf : FlOk f) (hk : k < 1000000) :
    ∃ (v : Value) (zs : List Int), (∀ W : World, W.heap[mb]? = w3.heap[mb]? → (Instr.lookup 112 (.map (some mb)) (.string f.coin) false).run Tryz.prog W = .ok v W) ∧ w3.ownsRow (mb + 1) 2 1 v zs.length (zs.map (Value.int .i64)) ∧ zs.length ≤ k ∧
      ∀ (w1 : World) (v' : Value), w3.grownBy w1 v.ownBlock → w1.ownsRow (mb + 1) 2 1 v' (zs.length + 1) (zs.map (Value.int .i64) ++ [.int .i64 f.amt]) → (v'.ownBlock = v.ownBlock ∨ ∃ g, v'.ownBlock = some g ∧ w3.heap.size ≤ g) →
        ∃ w2, (Instr.mapUpdate 112 (.map (some mb)) (.string f.coin) v').run Tryz.prog w1 = .ok () w2 ∧ TgSt w w2 mb (k + 1) (fl ++ [f]) := by
  obtain ⟨ks, D, hg, hm⟩ := h.gr
  obtain ⟨v, zs, hrun, hat, hoi, hzl, hback⟩ := groups_look (t := 112) (E := 113) (key := .string f.coin) hg (Maps.string_keyed Tryz.underlying9) Tryz.underlying112 zeroI64s (by unfold maxLen; omega) (Go.WideMaps.keyOf_string_mk Tryz.underlying9 hf.coin)
  refine ⟨v, zs, hrun, hoi.1, hzl, fun w1 v' hgr hown hloc => ?_⟩
  have hap := hoi.appended hown (x := f.amt) (by
    have := hf.amt
    unfold I64 at this
    exact WalkArith.wf_i64 (by omega))
  have hzs := hm.ints hat hoi
  obtain ⟨w2, hr2, hg2, hgr2⟩ := hback w1 v' (zs ++ [f.amt]) hgr hap (by rw [List.length_append]; show zs.length + 1 ≤ k + 1; omega) hloc
  rw [hap.datum_pos (by simp)] at hg2
  have hmp := hm.put f
  rw [← hzs] at hmp
  refine ⟨w2, hr2, ⟨⟨_, _, hg2, hmp⟩, ?_, h.lo⟩⟩
  · exact (h.bel).groups hoi hgr hgr2 h.bel.size (Nat.le_succ_of_le h.lo) h.lo
/-- A currency looked up. -/
theorem TgSt.look {w wr : World} {mb k : Nat} {fl : List Flw} (h : TgSt w wr mb k fl) (hok : ∀ f ∈ fl, FlOk f) (s : ByteArray) (hs : s.size ≤ maxLen) (hk : k < 1000000) :
    ∃ (a : Option Addr) (c : Nat), (Instr.lookup 112 (.map (some mb)) (.string s) false).run Tryz.prog wr = .ok (.slice a (amtF fl s.data.toList).length c) wr ∧ IntsAt wr (amtF fl s.data.toList) a (amtF fl s.data.toList).length := by
  obtain ⟨ks, D, hg, hm⟩ := h.gr
  obtain ⟨v, zs, hrun, hat, hoi, hzl, -⟩ := groups_look (t := 112) (E := 113) (key := .string s) hg (Maps.string_keyed Tryz.underlying9) Tryz.underlying112 zeroI64s (by unfold maxLen; omega) (Go.WideMaps.keyOf_string_mk Tryz.underlying9 hs)
  obtain rfl := hm.ints hat hoi
  obtain ⟨a, c, rfl⟩ := own_slice hoi.1
  exact ⟨a, c, hrun wr rfl, ints_rowT hoi.1 (fun n hn => by
    obtain ⟨f, hf, rfl⟩ := amtF_mem hn
    exact (hok f hf).amt)⟩
theorem TgSt.grown {w wr w' : World} {mb k : Nat} {fl : List Flw} {u : Value} {m base : Nat} {xs : List Value} (h : TgSt w wr mb k fl) (ho : wr.ownsRow base 66 2 u m xs) (hbs : w.heap.size ≤ base) (g : wr.grownBy w' u.ownBlock) : TgSt w w' mb k fl := by
  obtain ⟨ks, D, h1, h2⟩ := h.gr
  exact ⟨⟨ks, D, groups_grown h1 ho (by decide) g, h2⟩, h.bel.grown g h.bel.size (fun j e => Nat.le_trans hbs (own_lt ho e).1), h.lo⟩
theorem strK_at {w : World} {X : List Nat} {l : List Tx} {a : Option Addr} {len cap : Nat} (h : SlR strK w X l a len cap) (k : Nat) (hk : k < len) : ∃ b o t, a = some ⟨b, o, none⟩ ∧ l[k]? = some t ∧ w.cell? ⟨b, o + k, none⟩ = some (.string ⟨t.toArray⟩) := by
  obtain ⟨b, o, f, cs, ha, hb, hX, hf, h1, -, hc⟩ := h.at k hk
  obtain rfl := h1
  have := hc 0 _ rfl
  exact ⟨b, o, f, ha, hf, by simpa [strK] using this⟩
/-- What Total answers, in memory. -/
def ToR (ec : Bool → Value) (w' : World) (fl : List Flw) (x : Ending) : Prop := ∃ (out : List Flw) (a : Option Addr) (c : Nat) (b : Bool), x = .returned (.tuple #[.slice a out.length c, ec b]) ∧ SlR flK w' [] out a out.length c ∧ TotV fl out b ∧ out.length ≤ fl.length
set_option maxRecDepth 100000 in
set_option maxHeartbeats 8000000 in
theorem ltotal_any (fl : List Flw) (a : Option Addr) (len cap : Nat) (w : World) (h : SlR flK w [] fl a len cap) (hlen : len ≤ 1000) :
    Calls Tryz.prog 21 #[.slice a len cap] w fun x w' => ToR (fun b => .int .i64 (if b then 0 else 2)) w' fl x ∧ Below w.heap.size w w' := by
  have HS := Lib.hid h
  have HL := Lib.hid h.facts.1
  have HN := Lib.hid hlen
  have HFO := Lib.hid (fl_ok h)
  have hmm := @run_makeMap Tryz.prog
  clear h hlen
  go_enter Tryz.func21, Tryz.ntmps21
  go_upto_region 3 with (fail)
  have HT0 : Hid (TgSt w (w.alloc (.map #[] 0)) w.heap.size 0 (fl.take 0)) := ⟨⟨[], .map [], World.ownsGroups_made _ _ _ _ _, MapK.nil⟩, below_nT w _, Nat.le_refl _⟩
  obtain ⟨mb, hmb⟩ : ∃ m, m = w.heap.size := ⟨_, rfl⟩
  rw [← hmb] at HT0 ⊢
  clear hmb hmm
  generalize (w.alloc (.map #[] 0)) = w1 at *
  go_loopw [15] (fun i wr => ∃ (k : Nat), i = .int .i64 (k : Nat) ∧ k ≤ len ∧ Hid (TgSt w wr mb k (fl.take k))) (fun i _ => len - (intOf i).toNat)
  case atStart => exact ⟨0, rfl, Nat.zero_le _, HT0.out⟩
  case round =>
    clear HT0
    obtain ⟨k, rfl, hk, HT⟩ := hrel
    by_cases hlt : k < len
    · have hlt' : (k : Int) < (len : Int) := by omega
      have i0 : (0 : Int) ≤ (k : Int) := by omega
      have i1 : (k : Int) ≤ 1000 := by have := HN.out; omega
      obtain ⟨b, o, f, rfl, hf, hok, u0, u1⟩ := fl_at (HS.out.kept (Kept.of_below HT.out.bel [])) k hlt
      have hb1 := below_nT wr (.cells #[.string f.coin, .int .i64 f.amt] 66)
      have BF := Lib.hid (Mem.Blk.new wr 66 #[.string f.coin, .int .i64 f.amt])
      have HT3 := Lib.hid (HT.out.below hb1)
      have HTK := Lib.hid (take_snoc hf)
      have HOK := Lib.hid hok
      have HLT := Lib.hid hlt
      clear hb1 HT hf hok hlt
      go_upto_region 5 with (fail)
      generalize (wr.alloc (.cells #[.string f.coin, .int .i64 f.amt] 66)) = w3 at *
      obtain ⟨fb, hfb⟩ : ∃ m, m = wr.heap.size := ⟨_, rfl⟩
      rw [← hfb] at BF ⊢
      clear hfb u0 u1
      obtain ⟨v, zs, hlook, hown, hzl, hnx⟩ := HT3.out.next f HOK.out (by omega)
      have HNX := Lib.hid hnx
      have HOW := Lib.hid hown
      have HZL := Lib.hid hzl
      obtain ⟨z0, z1, -, -⟩ := BF.out.two
      have hmb : w3.heap[mb]? = w3.heap[mb]? := rfl
      clear hnx hown hzl
      refine wp_region_till (S := fun W => W.cell? ⟨fb, 0, none⟩ = some (.string f.coin) ∧ W.cell? ⟨fb, 1, none⟩ = some (.int .i64 f.amt) ∧ W.heap[mb]? = w3.heap[mb]?) 11 (by kernel_rfl) ?_
      refine till_take (i := 0) (v := ?_) rfl (by kernel_rfl) (fun _ _ _ h => h) (Or.inl ⟨by rfl, ?_⟩) ⟨z0,z1,hmb⟩ ?_
      rotate_left
      · intro W hS
        try dsimp only at hS
        go_split_ands
        go_simp
        try with_reducible rfl
      try simp only [Act.put, List.getElem_toArray, List.getElem_cons_zero, List.getElem_cons_succ, List.setIfInBounds_toArray, List.set_cons_zero, List.set_cons_succ]
      refine till_take (i := 1) (v := ?_) rfl (by kernel_rfl) (fun _ _ _ h => h) (Or.inl ⟨by rfl, ?_⟩) ⟨z0,z1,hmb⟩ ?_
      rotate_left
      · intro W hS
        try dsimp only at hS
        go_split_ands
        go_simp
        try with_reducible rfl
      try simp only [Act.put, List.getElem_toArray, List.getElem_cons_zero, List.getElem_cons_succ, List.setIfInBounds_toArray, List.set_cons_zero, List.set_cons_succ]
      refine till_take (i := 2) (v := ?_) rfl (by kernel_rfl) (fun _ _ _ h => h) (Or.inl ⟨by rfl, ?_⟩) ⟨z0,z1,hmb⟩ ?_
      rotate_left
      · intro W hS
        try dsimp only at hS
        go_split_ands
        go_simp
        try with_reducible rfl
      try simp only [Act.put, List.getElem_toArray, List.getElem_cons_zero, List.getElem_cons_succ, List.setIfInBounds_toArray, List.set_cons_zero, List.set_cons_succ]
      refine till_take (i := 3) (v := ?_) rfl (by kernel_rfl) (fun _ _ _ h => h) (Or.inl ⟨by rfl, ?_⟩) ⟨z0,z1,hmb⟩ ?_
      rotate_left
      · intro W hS
        try dsimp only at hS
        go_split_ands
        go_simp
        try with_reducible rfl
      try simp only [Act.put, List.getElem_toArray, List.getElem_cons_zero, List.getElem_cons_succ, List.setIfInBounds_toArray, List.set_cons_zero, List.set_cons_succ]
      refine till_take (i := 4) (v := ?_) rfl (by kernel_rfl) (fun _ _ _ h => h) (Or.inl ⟨by rfl, ?_⟩) ⟨z0,z1,hmb⟩ ?_
      rotate_left
      · intro W hS
        try dsimp only at hS
        go_split_ands
        go_simp
        try with_reducible rfl
      try simp only [Act.put, List.getElem_toArray, List.getElem_cons_zero, List.getElem_cons_succ, List.setIfInBounds_toArray, List.set_cons_zero, List.set_cons_succ]
      refine till_take (i := 5) (v := ?_) rfl (by kernel_rfl) (fun _ _ _ h => h) (Or.inl ⟨by rfl, ?_⟩) ⟨z0,z1,hmb⟩ ?_
      rotate_left
      · intro W hS
        try dsimp only at hS
        go_split_ands
        go_simp
        try with_reducible rfl
      try simp only [Act.put, List.getElem_toArray, List.getElem_cons_zero, List.getElem_cons_succ, List.setIfInBounds_toArray, List.set_cons_zero, List.set_cons_succ]
      refine till_take (i := 6) (v := v) rfl (by kernel_rfl) (fun _ _ _ h => h) (Or.inl ⟨by rfl, ?_⟩) ⟨z0,z1,hmb⟩ ?_
      · intro W hS
        have hl := hlook W hS.2.2
        go_simp
      try simp only [Act.put, List.getElem_toArray, List.getElem_cons_zero, List.getElem_cons_succ, List.setIfInBounds_toArray, List.set_cons_zero, List.set_cons_succ]
      refine till_take (i := 7) (v := ?_) rfl (by kernel_rfl) (fun _ _ _ h => h) (Or.inl ⟨by rfl, ?_⟩) ⟨z0,z1,hmb⟩ ?_
      rotate_left
      · intro W hS
        try dsimp only at hS
        go_split_ands
        go_simp
        try with_reducible rfl
      try simp only [Act.put, List.getElem_toArray, List.getElem_cons_zero, List.getElem_cons_succ, List.setIfInBounds_toArray, List.set_cons_zero, List.set_cons_succ]
      refine till_take (i := 8) (v := ?_) rfl (by kernel_rfl) (fun _ _ _ h => h) (Or.inl ⟨by rfl, ?_⟩) ⟨z0,z1,hmb⟩ ?_
      rotate_left
      · intro W hS
        try dsimp only at hS
        go_split_ands
        go_simp
        try with_reducible rfl
      try simp only [Act.put, List.getElem_toArray, List.getElem_cons_zero, List.getElem_cons_succ, List.setIfInBounds_toArray, List.set_cons_zero, List.set_cons_succ]
      have hal : Below w3.heap.size w3 (w3.alloc (.cells #[.int .i64 f.amt] 2)).drew := (below_nT w3 _).drew
      have HR5 := Lib.hid (own_below HOW.out hal)
      have HCN : Hid (∀ j u, [Value.int .i64 f.amt][j]? = some u → (w3.alloc (.cells #[.int .i64 f.amt] 2)).drew.cell? ((⟨w3.heap.size, 0, none⟩ : Addr).add j) = some u) := lit_cells_at w3 #[.int .i64 f.amt] 2 w3.heap.size rfl
      have HG5 := Lib.hid (grownT (row := v.ownBlock) hal)
      have HSB : Hid (mb + 1 ≤ (w3.alloc (.cells #[.int .i64 f.amt] 2)).drew.heap.size) := Nat.le_trans HT3.out.hi hal.size
      have BF5 := Lib.hid (BF.out.below hal)
      have HM5 : Hid ((w3.alloc (.cells #[.int .i64 f.amt] 2)).drew.heap[mb]? = w3.heap[mb]?) := hal.block mb HT3.out.hi
      refine till_one (i := 9) (by kernel_rfl) rfl (fun K' hK => ?_)
      go_simp
      refine hK _ _ ⟨BF5.out.cell 0, BF5.out.cell 1, HM5.out⟩ ?_
      clear hK K' hal z0 z1 hmb hlook
      generalize (w3.alloc (.cells #[.int .i64 f.amt] 2)).drew = w5 at *
      obtain ⟨nb, hnb⟩ : ∃ z, z = w3.heap.size := ⟨_, rfl⟩
      rw [← hnb] at HCN ⊢
      clear hnb
      try simp only [Act.put, List.getElem_toArray, List.getElem_cons_zero, List.getElem_cons_succ, List.setIfInBounds_toArray, List.set_cons_zero, List.set_cons_succ]
      refine till_one (i := 10) (by kernel_rfl) rfl (fun K' hK => ?_)
      refine step_ap infoI8 Tryz.underlying113 rfl (by decide) rfl (.tmp 25) (.tmp 28) rfl rfl HR5.out HSB.out ⟨nb, 0, none⟩ 1 1 [.int .i64 f.amt] rfl rfl HCN.out (by simp [Value.oneCell']) (by have := HZL.out; unfold maxLen; omega) (by have := HZL.out; omega) ?_
      intro v6 w6 o1 g1 hv1
      have hgb : ∀ j, v.ownBlock = some j → mb + 1 ≤ j := fun j hj => (own_lt HR5.out hj).1
      have BF6 := blk_grownT BF5.out g1 (fun e => blkRowT BF5.out HR5.out (by decide) e)
      have HM6 : w6.heap[mb]? = w3.heap[mb]? := (g1.block mb (by have := HSB.out; omega) (fun e => by have := hgb mb e.symm; omega)).trans HM5.out
      obtain ⟨w7, hrun7, HT7⟩ := HNX.out w6 v6 (World.grownBy.trans HG5.out g1) o1 (hv1.imp id (fun e => ⟨_, e, HG5.out.size⟩))
      rw [← HTK.out] at HT7
      have HT8 := Lib.hid HT7
      refine hK _ _ ⟨BF6.cell 0, BF6.cell 1, HM6⟩ ?_
      clear hK K' o1 g1 hv1 hgb BF6 HM6 HT7 HNX HR5 HCN HG5 HSB BF5 HM5 HTK HOW HT3
      try simp only [Act.put, List.getElem_toArray, List.getElem_cons_zero, List.getElem_cons_succ, List.setIfInBounds_toArray, List.set_cons_zero, List.set_cons_succ]
      refine till_last (by kernel_rfl) rfl (by kernel_rfl) (fun K' hK => ?_)
      go_simp
      refine hK _ _ ?_
      clear hK K' hrun7
      try simp only [Act.put, List.getElem_toArray, List.getElem_cons_zero, List.getElem_cons_succ, List.setIfInBounds_toArray, List.set_cons_zero, List.set_cons_succ]
      refine wpAny_done (by kernel_rfl) ?_ _
      go_wp2_with fail
      go_roundw
      case rel => exact ⟨k + 1, by go_num, by have := HLT.out; omega, HT8.out⟩
      case measure => simp [intOf]; have := HLT.out; omega
    · have hlt' : ¬ (k : Int) < (len : Int) := by omega
      rw [List.take_of_length_le (by rw [HL.out]; omega)] at HT
      clear hlt
      go_wp2_with fail
      go_at_call 43
      (with_reducible refine (mapKeys_int64 _ _).mono ?_)
      rintro y w2 ⟨rfl, rfl⟩
      have hb := below_nT wr (.cells #[.map (some mb)] 112)
      have HT2 := Lib.hid (HT.out.below hb)
      have BZ := Lib.hid (Mem.Blk.new wr 112 #[.map (some mb)])
      clear hb HT
      go_wp2_with fail
      generalize wr.alloc (.cells #[.map (some mb)] 112) = w2 at *
      obtain ⟨pz, hpz⟩ : ∃ p, p = wr.heap.size := ⟨_, rfl⟩
      rw [← hpz] at BZ ⊢
      clear hpz
      have hcz : w2.cell? ⟨pz, 0, none⟩ = some (Value.map (some mb)) := BZ.out.cell 0
      obtain ⟨ks0, D, hG, hM⟩ := HT2.out.gr
      have hsz := hM.size
      have hks := hM.len
      go_at_call 42
      (with_reducible refine (sortedKeys_int64 pz mb k D _ w2 BZ.out.lt hcz (groups_map hG) (by have := HN.out; have := HL.out; unfold maxLen; omega) (by have := HN.out; have := HL.out; omega)).mono ?_)
      rintro y w5 ⟨v', ss, rfl, hpm, hrow, -, hb5⟩
      obtain ⟨hsr, hsl⟩ := hM.srt hpm
      obtain ⟨ks, hkk⟩ : ∃ ks, ks = ss.mergeSort (fun x y => decide (x ≤ y)) := ⟨_, rfl⟩
      have hkl : ss.length = ks.length := by rw [hkk, List.length_mergeSort]
      rw [← hkk] at hsr hrow
      rw [hkl] at hrow
      obtain ⟨na, nc, rfl, hns⟩ := own_strs (w0 := w2) hrow rfl hb5 (X := []) (fun g hg => nomatch hg)
      have HNS := Lib.hid hns
      have HSR := Lib.hid hsr
      have HKL : Hid (ks.length ≤ 1000) := by
        have h1 := HN.out
        have h2 := HL.out
        show _ ≤ _
        omega
      have HKF : Hid (ks.length ≤ fl.length) := by
        show _ ≤ _
        omega
      have HT5 := Lib.hid (HT2.out.below hb5)
      have HB5 := Lib.hid (Below.refl w5.heap.size w5)
      have HWS : Hid (w.heap.size ≤ w5.heap.size) := HT5.out.bel.size
      clear hcz hG hM hsz hks hpm hrow hb5 hsr hsl hkk hkl hns HT2 BZ
      have HSZ : Hid (∀ t ∈ ks, (⟨t.toArray⟩ : ByteArray).size ≤ maxLen) := by
        intro t ht
        obtain ⟨f, hf, rfl⟩ := (HSR.out.all t).1 ht
        exact (HFO.out f hf).coin
      go_wp2_with fail
      go_loopw [7, 35] (fun vo vi wr => ∃ (j : Nat) (oa : Option Addr) (oc : Nat), vo = .slice oa (totL (ks.take j) fl).length oc ∧ vi = .int .i64 (j : Nat) ∧ j ≤ ks.length ∧ Hid (TgSt w wr mb k fl) ∧ Hid (Below w5.heap.size w5 wr) ∧ Hid (wr.ownsRow w5.heap.size 66 2 (.slice oa (totL (ks.take j) fl).length oc) (totL (ks.take j) fl).length (outF (totL (ks.take j) fl)) ∧ ∀ t ∈ ks.take j, fits64 (amtF fl t).sum = true)) (fun _ vi _ => ks.length - (intOf vi).toNat)
      case atStart => exact ⟨0, none, 0, rfl, rfl, Nat.zero_le _, HT5.out, HB5.out, World.ownsRow_nil _ _ _ _, fun t ht => nomatch ht⟩
      case round =>
        clear HT5 HB5
        rename World => w6
        obtain ⟨j, oa, oc, rfl, rfl, hj, HT, HB, HR⟩ := hrel
        by_cases hjt : j < ks.length
        · have hjt' : (j : Int) < (ks.length : Int) := by omega
          have j0 : (0 : Int) ≤ (j : Int) := by omega
          have j1 : (j : Int) ≤ 1000 := by have := HKL.out; omega
          obtain ⟨b, o, t, hna, ht, u0⟩ := strK_at (HNS.out.kept (Kept.of_below HB.out [])) j hjt
          have HNA := Lib.hid hna
          subst hna
          have HJT := Lib.hid hjt
          have htm := List.mem_of_getElem? ht
          have hsz := HSZ.out t htm
          have hdt : (⟨t.toArray⟩ : ByteArray).data.toList = t := by simp
          obtain ⟨va, vc, hlook, hints⟩ := HT.out.look HFO.out ⟨t.toArray⟩ hsz (by have := HN.out; omega)
          rw [hdt] at hlook hints
          have HSU := Lib.hid (sum_any (amtF fl t) va (amtF fl t).length vc w6 hints (by have h1 := amtF_len fl t; have := HN.out; have := HL.out; omega))
          have HTK := Lib.hid (totL_take (fl := fl) ht)
          have HTT := Lib.hid (take_snoc ht)
          have HTM := Lib.hid htm
          obtain ⟨S, hS⟩ : ∃ S, S = (amtF fl t).sum := ⟨_, rfl⟩
          rw [← hS] at HSU HTK
          have HS := Lib.hid hS
          clear hints hS ht htm hsz hdt hjt
          go_wp2_with fail
          go_at_call 44
          (with_reducible refine HSU.out.mono ?_)
          rintro y w7 ⟨rfl, rfl⟩
          cases hfs : fits64 S with
          | false =>
            have HV : Hid (TotV fl [] false) := ⟨ks, HSR.out, .inl ⟨rfl, rfl, t, HTM.out, by rw [← HS.out]; exact hfs⟩⟩
            clear hlook hfs HSU HTK
            go_wp2_with fail
            go_ret2
            exact ⟨⟨[], none, 0, false, rfl, SlR.nil _ _ _, HV.out, Nat.zero_le _⟩, HT.out.bel⟩
          | true =>
            have HFT : Hid (∀ t ∈ ks.take (j + 1), fits64 (amtF fl t).sum = true) := by
              intro s hs
              rw [HTT.out] at hs
              rcases List.mem_append.1 hs with hs | hs
              · exact HR.out.2 s hs
              · rw [List.mem_singleton] at hs; subst hs
                rw [← HS.out]; exact hfs
            have HSI : Hid (I64 S) := by
              unfold fits64 at hfs
              rw [Bool.and_eq_true, decide_eq_true_iff, decide_eq_true_iff] at hfs
              exact hfs
            have hif : (if true = true then S else 0) = S := if_pos rfl
            clear hlook hfs HSU HTT
            by_cases h0 : S = 0
            · rw [if_pos h0, List.append_nil] at HTK
              have hb0 : (S != 0) = false := by simp [h0]
              have hb1 : S = 0 := h0
              have HR2 : Hid (w6.ownsRow w5.heap.size 66 2 (.slice oa (totL (ks.take (j + 1)) fl).length oc) (totL (ks.take (j + 1)) fl).length (outF (totL (ks.take (j + 1)) fl)) ∧ ∀ t ∈ ks.take (j + 1), fits64 (amtF fl t).sum = true) := by
                rw [HTK.out]; exact ⟨HR.out.1, HFT.out⟩
              clear h0 HFT HR
              subst hb1
              go_wp2_with fail
              go_roundw
              case rel => exact ⟨j + 1, oa, oc, by rw [HTK.out], by go_num, by have := HJT.out; omega, HT.out, HB.out, HR2.out⟩
              case measure => simp [intOf]; have := HJT.out; omega
            · rw [if_neg h0] at HTK
              have hb0 : (S != 0) = true := by simp [h0]
              have hal := below_nT w6 (.cells #[.string ⟨t.toArray⟩, .int .i64 S] 66)
              have HO2 := Lib.hid (own_below HR.out.1 hal)
              have HT2 := Lib.hid (HT.out.below hal)
              have HB2 := Lib.hid (HB.out.trans (hal.mono HB.out.size))
              have HSB : Hid (w5.heap.size ≤ (w6.alloc (.cells #[.string ⟨t.toArray⟩, .int .i64 S] 66)).heap.size) := HB2.out.size
              have HLE : Hid ((totL (ks.take j) fl).length ≤ 1000) := by
                have h1 := totL_len (ks.take j) fl
                rw [List.length_take] at h1
                have h2 := HKL.out
                show _ ≤ _
                omega
              clear hal h0 u0
              go_wp2_with (at_builtin; refine ap_row infoLF Tryz.underlying36 rfl (by decide) rfl (.tmp 50) (.tmp 54) rfl rfl HO2.out HSB.out ⟨w6.heap.size, 0, none⟩ 1 1 [.string ⟨t.toArray⟩, .int .i64 S] rfl rfl (lit_cells_at w6 #[.string ⟨t.toArray⟩, .int .i64 S] 66 _ rfl) (by simp [Value.oneCell']) (by have := HLE.out; unfold maxLen; omega) (by have := HLE.out; omega) ?_; intro v3 w3 o1 g1 hv1; have HO3 := Lib.hid o1; have HG3 := Lib.hid g1; clear o1 g1 hv1)
              have HT3 := Lib.hid (HT2.out.grown HO2.out HWS.out HG3.out)
              have HB3 := Lib.hid (HB2.out.grown HG3.out HB2.out.size (fun b hb => (own_lt HO2.out hb).1))
              obtain ⟨a', c', rfl⟩ := own_slice HO3.out
              have HLN : Hid ((totL (ks.take j) fl).length + 1 = (totL (ks.take (j + 1)) fl).length) := by show _ = _; rw [HTK.out, List.length_append]; rfl
              have HR3 : Hid (w3.ownsRow w5.heap.size 66 2 (.slice a' (totL (ks.take (j + 1)) fl).length c') (totL (ks.take (j + 1)) fl).length (outF (totL (ks.take (j + 1)) fl)) ∧ ∀ t ∈ ks.take (j + 1), fits64 (amtF fl t).sum = true) := by
                rw [← HLN.out]
                refine ⟨?_, HFT.out⟩
                rw [HTK.out, outF_append, outF_one]
                exact HO3.out
              clear HO3 HO2 HB2 HG3 HT2 HTK HSB HFT HR
              go_roundw
              case rel => exact ⟨j + 1, a', c', by rw [HLN.out], by go_num, by have := HJT.out; omega, HT3.out, HB3.out, HR3.out⟩
              case measure => simp [intOf]; have := HJT.out; omega
        · have hjt' : ¬ (j : Int) < (ks.length : Int) := by omega
          rw [List.take_of_length_le (by omega)] at HR ⊢
          have HFI : Hid (∃ a c, Value.slice oa (totL ks fl).length oc = .slice a (totL ks fl).length c ∧ SlR flK w6 [] (totL ks fl) a (totL ks fl).length c) := outF_any HR.out.1 HB.out (fun f hf => by
            unfold totL at hf
            obtain ⟨t, ht, he⟩ := List.mem_filterMap.1 hf
            split at he
            · cases he
            · injection he with he
              subst he
              refine ⟨HSZ.out t ht, ?_⟩
              have h1 := HR.out.2 t ht
              unfold fits64 at h1
              rw [Bool.and_eq_true, decide_eq_true_iff, decide_eq_true_iff] at h1
              exact h1)
          have HV : Hid (TotV fl (totL ks fl) true) := ⟨ks, HSR.out, .inr ⟨rfl, rfl, HR.out.2⟩⟩
          have HLE : Hid ((totL ks fl).length ≤ fl.length) := Nat.le_trans (totL_len ks fl) HKF.out
          clear HR hjt
          go_wp2_with fail
          go_ret2
          obtain ⟨a, c, e, hs⟩ := HFI.out
          exact ⟨⟨totL ks fl, a, c, true, by rw [e]; rfl, hs, HV.out, HLE.out⟩, HT.out.bel⟩
end Go.Proofs.YtmiinmndbkdjbaaGreat

/- Numbers by their digits to the base 65536: plain arithmetic, no program in sight. -/
namespace Go.Big
/-- digits to the base 65536, the lowest first -/
def val : List Nat → Nat
  | [] => 0
  | d :: l => d + 65536 * val l
def Dig (l : List Nat) : Prop := ∀ d ∈ l, d < 65536
def Norm (l : List Nat) : Prop := Dig l ∧ (∀ d, l.getLast? = some d → d ≠ 0)
def pw (k : Nat) : Nat := 65536 ^ k
theorem pw_succ (k : Nat) : pw (k + 1) = 65536 * pw k := by unfold pw; rw [Nat.pow_succ, Nat.mul_comm]
theorem pw_zero : pw 0 = 1 := rfl
theorem pw_pos (k : Nat) : 0 < pw k := Nat.pow_pos (by omega)
theorem pw_add (a b : Nat) : pw (a + b) = pw a * pw b := Nat.pow_add _ _ _
theorem pw_mono {a b : Nat} (h : a ≤ b) : pw a ≤ pw b := Nat.pow_le_pow_right (by omega) h
theorem Dig.nil : Dig [] := by intro d h; cases h
theorem Dig.append {a b : List Nat} (ha : Dig a) (hb : Dig b) : Dig (a ++ b) := by
  intro d h; rcases List.mem_append.1 h with h | h
  · exact ha d h
  · exact hb d h
theorem Dig.take {a : List Nat} (ha : Dig a) (k : Nat) : Dig (a.take k) := fun d h => ha d (List.mem_of_mem_take h)
theorem Dig.drop {a : List Nat} (ha : Dig a) (k : Nat) : Dig (a.drop k) := fun d h => ha d (List.mem_of_mem_drop h)
theorem Dig.getD {a : List Nat} (ha : Dig a) (k : Nat) : a.getD k 0 < 65536 := by
  rw [List.getD_eq_getElem?_getD]
  cases h : a[k]? with
  | none => simp
  | some d => exact ha d (List.mem_of_getElem? h)
theorem val_append (a b : List Nat) : val (a ++ b) = val a + pw a.length * val b := by
  induction a with
  | nil => simp [val, pw]
  | cons d l ih => simp only [List.cons_append, val, ih, List.length_cons, pw_succ]; rw [Nat.mul_add, Nat.mul_assoc, Nat.add_assoc]
theorem val_snoc (a : List Nat) (d : Nat) : val (a ++ [d]) = val a + d * pw a.length := by
  rw [val_append]; simp [val, Nat.mul_comm]
theorem val_lt {a : List Nat} (h : Dig a) : val a < pw a.length := by
  induction a with
  | nil => simp [val, pw]
  | cons d l ih =>
    have h1 := h d (by simp)
    have h2 := ih (fun x hx => h x (by simp [hx]))
    simp only [val, List.length_cons, pw_succ]; omega
theorem val_take_succ (a : List Nat) (k : Nat) : val (a.take (k + 1)) = val (a.take k) + a.getD k 0 * pw k := by
  by_cases h : k < a.length
  · rw [List.take_succ_eq_append_getElem h, val_snoc, List.length_take, Nat.min_eq_left (by omega)]
    simp [List.getD_eq_getElem?_getD, h]
  · rw [List.take_of_length_le (by omega), List.take_of_length_le (by omega)]
    simp [List.getD_eq_getElem?_getD, List.getElem?_eq_none (Nat.not_lt.1 h)]
theorem Norm.nil : Norm [] := ⟨Dig.nil, by simp⟩
theorem Norm.ne {a : List Nat} (h : Norm a) (hn : a ≠ []) : pw (a.length - 1) ≤ val a := by
  rcases List.eq_nil_or_concat a with rfl | ⟨l, d, rfl⟩
  · exact absurd rfl hn
  · have := h.2 d (by simp)
    simp only [List.concat_eq_append, val_snoc, List.length_append, List.length_singleton, Nat.add_sub_cancel]
    have : 1 * pw l.length ≤ d * pw l.length := Nat.mul_le_mul_right _ (by omega)
    omega
theorem Norm.nil_iff {a : List Nat} (h : Norm a) : a = [] ↔ val a = 0 := by
  constructor
  · rintro rfl; rfl
  · intro h0
    apply Classical.byContradiction; intro hn
    have := h.ne hn
    have := pw_pos (a.length - 1)
    omega
theorem Norm.length_le {a : List Nat} (h : Norm a) {k : Nat} (hv : val a < pw k) : a.length ≤ k := by
  apply Classical.byContradiction; intro hk
  have hn : a ≠ [] := by rintro rfl; simp at hk
  have h1 := h.ne hn
  have h2 := pw_mono (a := k) (b := a.length - 1) (by omega)
  omega
theorem Norm.length_lt_val {a b : List Nat} (ha : Norm a) (hb : Norm b) (h : a.length < b.length) : val a < val b := by
  have h1 := val_lt ha.1
  have hn : b ≠ [] := by rintro rfl; simp at h
  have h2 := hb.ne hn
  have h3 := pw_mono (a := a.length) (b := b.length - 1) (by omega)
  omega
theorem dig_inj : ∀ {a b : List Nat}, Dig a → Dig b → a.length = b.length → val a = val b → a = b
  | [], [], _, _, _, _ => rfl
  | [], _ :: _, _, _, h, _ => by simp at h
  | _ :: _, [], _, _, h, _ => by simp at h
  | x :: a, y :: b, ha, hb, hl, hv => by
    have h1 := ha x (by simp)
    have h2 := hb y (by simp)
    simp only [val] at hv
    have e : x = y := by omega
    have e2 : val a = val b := by omega
    rw [e, dig_inj (fun d h => ha d (by simp [h])) (fun d h => hb d (by simp [h])) (by simpa using hl) e2]
theorem Norm.inj {a b : List Nat} (ha : Norm a) (hb : Norm b) (h : val a = val b) : a = b := by
  apply dig_inj ha.1 hb.1 ?_ h
  rcases Nat.lt_trichotomy a.length b.length with g | g | g
  · have := ha.length_lt_val hb g; omega
  · exact g
  · have := hb.length_lt_val ha g; omega
/-- trim: without noughts above -/
def trim (l : List Nat) : List Nat := (l.reverse.dropWhile (· == 0)).reverse
theorem trim_nil : trim [] = [] := rfl
theorem trim_snoc0 (l : List Nat) : trim (l ++ [0]) = trim l := by simp [trim]
theorem trim_snoc (l : List Nat) (d : Nat) (h : d ≠ 0) : trim (l ++ [d]) = l ++ [d] := by
  have : (d == 0) = false := by simp [h]
  simp [trim, this]
theorem trim_take_succ (l : List Nat) (k : Nat) (hk : k < l.length) (h0 : l.getD k 0 = 0) : trim (l.take (k + 1)) = trim (l.take k) := by
  rw [List.take_succ_eq_append_getElem hk]
  have : l[k] = 0 := by simpa [List.getD_eq_getElem?_getD, hk] using h0
  rw [this, trim_snoc0]
theorem trim_take_stop (l : List Nat) (k : Nat) (hk : k < l.length) (h0 : l.getD k 0 ≠ 0) : trim (l.take (k + 1)) = l.take (k + 1) := by
  rw [List.take_succ_eq_append_getElem hk]
  have : l[k] ≠ 0 := by simpa [List.getD_eq_getElem?_getD, hk] using h0
  rw [trim_snoc _ _ this]
theorem trim_spec (l : List Nat) (h : Dig l) : Norm (trim l) ∧ val (trim l) = val l ∧ (trim l).length ≤ l.length := by
  rcases List.eq_nil_or_concat l with rfl | ⟨a, d, rfl⟩
  · exact ⟨Norm.nil, rfl, by simp [trim]⟩
  · simp only [List.concat_eq_append] at h ⊢
    by_cases hd : d = 0
    · subst hd
      rw [trim_snoc0]
      have := trim_spec a (fun x hx => h x (by simp [hx]))
      refine ⟨this.1, by rw [this.2.1, val_snoc]; simp, ?_⟩
      have h3 := this.2.2
      simp only [List.length_append, List.length_singleton]; omega
    · rw [trim_snoc _ _ hd]
      exact ⟨⟨h, fun x hx => by simp at hx; omega⟩, rfl, Nat.le_refl _⟩
termination_by l.length
/-- one step of a sum of digits -/
theorem add_step (out a b : List Nat) (i carry : Nat) (hl : out.length = i) (hinv : val out + carry * pw i = val (a.take i) + val (b.take i)) :
    val (out ++ [(carry + a.getD i 0 + b.getD i 0) % 65536]) + (carry + a.getD i 0 + b.getD i 0) / 65536 * pw (i + 1) = val (a.take (i + 1)) + val (b.take (i + 1)) := by
  rw [val_snoc, hl, val_take_succ, val_take_succ, pw_succ]
  generalize a.getD i 0 = x at *
  generalize b.getD i 0 = y at *
  generalize pw i = P at *
  have h1 : (carry + x + y) % 65536 * P + (carry + x + y) / 65536 * (65536 * P) = (carry + x + y) * P := by
    rw [← Nat.mul_assoc, ← Nat.add_mul]; congr 1; omega
  have h2 : (carry + x + y) * P = carry * P + x * P + y * P := by rw [Nat.add_mul, Nat.add_mul]
  omega
/-- one step of a difference of digits -/
theorem sub_step (out a b : List Nat) (i borrow : Nat) (hb : borrow ≤ 1) (ha : Dig a) (hbd : Dig b) (hl : out.length = i) (hinv : val out + val (b.take i) = val (a.take i) + borrow * pw i) :
    val (out ++ [(65536 + a.getD i 0 - borrow - b.getD i 0) % 65536]) + val (b.take (i + 1)) = val (a.take (i + 1)) + (1 - (65536 + a.getD i 0 - borrow - b.getD i 0) / 65536) * pw (i + 1) := by
  have hx := ha.getD i
  have hy := hbd.getD i
  rw [val_snoc, hl, val_take_succ, val_take_succ, pw_succ]
  generalize a.getD i 0 = x at *
  generalize b.getD i 0 = y at *
  generalize pw i = P at *
  have hv : (65536 + x - borrow - y) / 65536 ≤ 1 := by omega
  have h1 : (65536 + x - borrow - y) % 65536 * P + y * P + borrow * P = x * P + (1 - (65536 + x - borrow - y) / 65536) * (65536 * P) := by
    rw [← Nat.mul_assoc, ← Nat.add_mul, ← Nat.add_mul, ← Nat.add_mul]; congr 1; omega
  omega
/-- digits are compared from the highest on -/
theorem cmp_lt (a b : List Nat) (i : Nat) (ha : Dig a) (hl : a.length = b.length) (hi : i < a.length) (he : a.drop (i + 1) = b.drop (i + 1)) (hlt : a.getD i 0 < b.getD i 0) : val a < val b := by
  have e1 : val a = val (a.take (i + 1)) + pw (i + 1) * val (a.drop (i + 1)) := by
    conv => lhs; rw [← List.take_append_drop (i + 1) a]
    rw [val_append, List.length_take, Nat.min_eq_left (by omega)]
  have e2 : val b = val (b.take (i + 1)) + pw (i + 1) * val (b.drop (i + 1)) := by
    conv => lhs; rw [← List.take_append_drop (i + 1) b]
    rw [val_append, List.length_take, Nat.min_eq_left (by omega)]
  rw [e1, e2, he, val_take_succ, val_take_succ]
  have h1 := val_lt (ha.take i)
  rw [List.length_take, Nat.min_eq_left (by omega)] at h1
  have h3 : (a.getD i 0 + 1) * pw i ≤ b.getD i 0 * pw i := Nat.mul_le_mul_right _ (by omega)
  rw [Nat.add_mul] at h3
  omega
end Go.Big
namespace Go.Big
theorem val_digit (a : List Nat) (j : Nat) (ha : Dig a) : val a / pw j % 65536 = a.getD j 0 := by
  induction a generalizing j with
  | nil => simp [val]
  | cons d l ih =>
    have hd := ha d (by simp)
    have hl : Dig l := fun x hx => ha x (by simp [hx])
    cases j with
    | zero => simp [val, pw]; omega
    | succ j =>
      rw [pw_succ, ← Nat.div_div_eq_div_mul]
      have : val (d :: l) / 65536 = val l := by simp only [val]; omega
      rw [this, ih j hl]; simp
theorem val_bit (a : List Nat) (i : Nat) (ha : Dig a) : val a / 2 ^ i % 2 = a.getD (i / 16) 0 / 2 ^ (i % 16) % 2 := by
  have e : (2 : Nat) ^ i = pw (i / 16) * 2 ^ (i % 16) := by
    unfold pw
    rw [show (65536 : Nat) = 2 ^ 16 from rfl, ← Nat.pow_mul, ← Nat.pow_add]; congr 1; omega
  rw [e, ← Nat.div_div_eq_div_mul, ← val_digit a (i / 16) ha]
  generalize val a / pw (i / 16) = n
  have hk : i % 16 < 16 := Nat.mod_lt _ (by omega)
  generalize i % 16 = k at hk
  have h2 : (65536 : Nat) = 2 ^ k * 2 ^ (16 - k) := by rw [← Nat.pow_add, show k + (16 - k) = 16 from by omega]
  have h3 : (2:Nat) ^ (16 - k) = 2 * 2 ^ (15 - k) := by rw [show 16 - k = (15 - k) + 1 from by omega, Nat.pow_succ, Nat.mul_comm]
  have h4 : n % 65536 / 2 ^ k = n / 2 ^ k % 2 ^ (16 - k) := by rw [h2, Nat.mod_mul_right_div_self]
  rw [h4, h3, Nat.mod_mul_right_mod]
/-- A digit of the quotient is raised. -/
theorem val_set (q : List Nat) (j x : Nat) (hj : j < q.length) : val (q.set j (q.getD j 0 + x)) = val q + x * pw j := by
  induction q generalizing j with
  | nil => simp at hj
  | cons d l ih =>
    cases j with
    | zero => simp [val, pw]; omega
    | succ j =>
      have := ih j (by simpa using hj)
      have e : (d :: l).getD (j + 1) 0 = l.getD j 0 := by simp
      rw [e]
      simp only [List.set_cons_succ, val, this, pw_succ]
      rw [Nat.mul_add, Nat.mul_left_comm 65536 x]; omega
/-- What stands before round i (i + 1 bits are still to come): the quotient of the bits above, the rest. -/
theorem div_step (A b i : Nat) (hb : 0 < b) (left q : Nat) (hleft : left = A / 2 ^ (i + 1) % b) (hq : q = A / 2 ^ (i + 1) / b * 2 ^ (i + 1)) :
    let l2 := 2 * left + A / 2 ^ i % 2
    (b ≤ l2 → l2 - b = A / 2 ^ i % b ∧ q + 2 ^ i = A / 2 ^ i / b * 2 ^ i) ∧ (l2 < b → l2 = A / 2 ^ i % b ∧ q = A / 2 ^ i / b * 2 ^ i) := by
  intro l2
  have hl : l2 = 2 * left + A / 2 ^ i % 2 := rfl
  clear_value l2
  have e1 : A / 2 ^ (i + 1) = A / 2 ^ i / 2 := by rw [Nat.pow_succ, Nat.div_div_eq_div_mul]
  rw [e1] at hleft hq
  have e2 : (2:Nat) ^ (i + 1) = 2 * 2 ^ i := by rw [Nat.pow_succ, Nat.mul_comm]
  rw [e2] at hq
  generalize A / 2 ^ i = N at *
  generalize (2:Nat) ^ i = P at *
  have hN : N = 2 * (N / 2) + N % 2 := by omega
  have hd := Nat.div_add_mod (N / 2) b
  have hlt := Nat.mod_lt (N / 2) hb
  have hl2 : l2 = 2 * (N / 2 % b) + N % 2 := by rw [hl, hleft]
  generalize N / 2 / b = d at *
  generalize N / 2 % b = r at *
  have hNb : N = b * (2 * d) + l2 := by rw [Nat.mul_left_comm]; omega
  constructor
  · intro h
    have h2 : l2 - b < b := by omega
    have hNb' : N = b * (2 * d + 1) + (l2 - b) := by rw [Nat.mul_add]; omega
    have hdiv : N / b = 2 * d + 1 := by rw [hNb', Nat.mul_add_div hb, Nat.div_eq_of_lt h2]
    have hmod : N % b = l2 - b := by rw [hNb', Nat.mul_add_mod, Nat.mod_eq_of_lt h2]
    refine ⟨hmod.symm, ?_⟩
    rw [hdiv, hq, Nat.add_mul]
    have : d * (2 * P) = 2 * d * P := by rw [← Nat.mul_assoc, Nat.mul_comm d 2]
    omega
  · intro h
    have hdiv : N / b = 2 * d := by rw [hNb, Nat.mul_add_div hb, Nat.div_eq_of_lt h, Nat.add_zero]
    have hmod : N % b = l2 := by rw [hNb, Nat.mul_add_mod, Nat.mod_eq_of_lt h]
    refine ⟨hmod.symm, ?_⟩
    rw [hdiv, hq]
    rw [← Nat.mul_assoc, Nat.mul_comm d 2]
/-- The quotient's digits while bits come in from above: digit i / 16 has only bits from i % 16 + 1 on, and all lower digits are nought. -/
def Bits (q : List Nat) (i : Nat) : Prop := Dig q ∧ (∀ j, j < i / 16 → q.getD j 0 = 0) ∧ q.getD (i / 16) 0 % 2 ^ (i % 16) = 0
theorem Bits.start (n : Nat) (i : Nat) : Bits (List.replicate n 0) i := by
  have h0 : ∀ j, (List.replicate n 0).getD j 0 = 0 := by
    intro j; rw [List.getD_eq_getElem?_getD, List.getElem?_replicate]; split <;> rfl
  refine ⟨fun d h => by have := List.eq_of_mem_replicate h; omega, fun j _ => h0 j, by rw [h0]; exact Nat.zero_mod _⟩
theorem getD_set (q : List Nat) (j k x : Nat) (hj : j < q.length) : (q.set j x).getD k 0 = if k = j then x else q.getD k 0 := by
  rw [List.getD_eq_getElem?_getD, List.getElem?_set]
  by_cases h : j = k
  · subst h; simp [hj]
  · rw [if_neg h, if_neg (fun e => h e.symm), List.getD_eq_getElem?_getD]
theorem Bits.down (q : List Nat) (i : Nat) (h : Bits q (i + 1)) : Bits q i := by
  obtain ⟨h1, h2, h3⟩ := h
  by_cases e : (i + 1) % 16 = 0
  · have e1 : (i + 1) / 16 = i / 16 + 1 := by omega
    rw [e1] at h2 h3
    refine ⟨h1, fun j hj => h2 j (by omega), by rw [h2 _ (by omega)]; exact Nat.zero_mod _⟩
  · have e1 : (i + 1) / 16 = i / 16 := by omega
    have e2 : (i + 1) % 16 = i % 16 + 1 := by omega
    rw [e1] at h2 h3
    rw [e2, Nat.pow_succ] at h3
    refine ⟨h1, h2, ?_⟩
    have := Nat.mod_mul_right_mod (q.getD (i / 16) 0) (2 ^ (i % 16)) 2
    rw [h3] at this; rw [← this]; exact Nat.zero_mod _
theorem dig_room (x k : Nat) (hk : k < 16) (hx : x < 65536) (hm : x % 2 ^ (k + 1) = 0) : x + 2 ^ k < 65536 ∧ (x + 2 ^ k) % 2 ^ k = 0 := by
  have h2 : (65536 : Nat) = 2 ^ (k + 1) * 2 ^ (15 - k) := by rw [← Nat.pow_add, show k + 1 + (15 - k) = 16 from by omega]
  have hp : 0 < (2:Nat) ^ k := Nat.pow_pos (by omega)
  have hs : (2:Nat) ^ (k + 1) = 2 * 2 ^ k := by rw [Nat.pow_succ, Nat.mul_comm]
  obtain ⟨c, hc⟩ := Nat.dvd_of_mod_eq_zero hm
  have hc2 : c < 2 ^ (15 - k) := by
    rw [h2, hc] at hx
    exact Nat.lt_of_mul_lt_mul_left hx
  have h4 : 2 ^ (k + 1) * (c + 1) ≤ 65536 := by rw [h2]; exact Nat.mul_le_mul_left _ (by omega)
  rw [Nat.mul_add, ← hc, hs] at h4
  refine ⟨by omega, ?_⟩
  rw [hc, hs, Nat.mul_right_comm, Nat.mul_comm (2 * c), ]
  rw [Nat.add_mod_right, Nat.mul_mod_right]
theorem Bits.set_ (q : List Nat) (i : Nat) (h : Bits q (i + 1)) (hi : i / 16 < q.length) :
    Bits (q.set (i / 16) (q.getD (i / 16) 0 + 2 ^ (i % 16))) i ∧ q.getD (i / 16) 0 + 2 ^ (i % 16) < 65536 := by
  have hz : q.getD (i / 16) 0 % 2 ^ (i % 16 + 1) = 0 := by
    obtain ⟨h1, h2, h3⟩ := h
    by_cases e : (i + 1) % 16 = 0
    · have e1 : (i + 1) / 16 = i / 16 + 1 := by omega
      rw [e1] at h2
      rw [h2 _ (by omega)]; exact Nat.zero_mod _
    · have e1 : (i + 1) / 16 = i / 16 := by omega
      have e2 : (i + 1) % 16 = i % 16 + 1 := by omega
      rw [e1, e2] at h3; exact h3
  have hd := dig_room _ _ (Nat.mod_lt i (by omega)) (h.1.getD (i / 16)) hz
  have hdown := h.down
  refine ⟨⟨?_, ?_, ?_⟩, hd.1⟩
  · intro d hm
    rcases List.mem_or_eq_of_mem_set hm with hm | rfl
    · exact h.1 d hm
    · exact hd.1
  · intro j hj
    rw [getD_set _ _ _ _ hi, if_neg (by omega)]
    exact hdown.2.1 j hj
  · rw [getD_set _ _ _ _ hi, if_pos rfl]; exact hd.2
theorem set_val (q : List Nat) (i : Nat) (hi : i / 16 < q.length) : val (q.set (i / 16) (q.getD (i / 16) 0 + 2 ^ (i % 16))) = val q + 2 ^ i := by
  rw [val_set _ _ _ hi]
  congr 1
  unfold pw
  rw [show (65536 : Nat) = 2 ^ 16 from rfl, ← Nat.pow_mul, ← Nat.pow_add]; congr 1; omega
theorem val_zero (n : Nat) : val (List.replicate n 0) = 0 := by
  induction n with
  | zero => rfl
  | succ n ih => simp [List.replicate_succ, val, ih]
end Go.Big
