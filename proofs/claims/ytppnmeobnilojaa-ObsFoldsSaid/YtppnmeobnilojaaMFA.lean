/- A part of the proof: EvalQ, EvalR, Fx, Two, Seen, EvS, one behind another. -/
import Derived.Test.YtppnmeobnilojaaMAA
import Derived.Test.YtppnmeobnilojaaMAB
import Derived.Test.YtppnmeobnilojaaMAC
import Derived.Test.YtppnmeobnilojaaMAD
import Derived.Test.YtppnmeobnilojaaMAE
import Derived.Test.YtppnmeobnilojaaMAF
import Derived.Test.YtppnmeobnilojaaMAG
import Derived.Test.YtppnmeobnilojaaMAH
import Derived.Deep.QuietTactic
import Derived.BigQuiet
/- Values and their kinds; the document's own words; fixings more: plain. -/
namespace Go.Proofs.Ytppnmeobnilojaa
set_option linter.unusedVariables false
set_option linter.unusedSimpArgs false
open Go.RowKit
/-- A value of a kind, or none. -/
def Ty (k : Int) (v : Vl) : Prop := v = .unk ∨ v = .brk ∨ (k = 1 ∧ ∃ n, v = .num n) ∨ (k = 2 ∧ ∃ b, v = .tru b)
theorem ty_numV (o : Option Int) : Ty 1 (numV o) := by cases o with | none => exact .inr (.inl rfl) | some n => exact .inr (.inr (.inl ⟨rfl, n, rfl⟩))
theorem kOf_need {op : Int} {ks : List Int} (h21 : op ≠ 21) (h : kOf op ks ≠ 0) : (∀ k ∈ ks, k = needK op) ∧ kOf op ks = isK op := by
  unfold kOf at h ⊢
  rw [if_neg h21] at h ⊢
  by_cases ha : ks.all (fun k => decide (k = needK op)) = true
  · rw [if_pos ha]
    exact ⟨fun k hk => by simpa using List.all_eq_true.1 ha k hk, rfl⟩
  · rw [if_neg ha] at h; exact absurd rfl h
theorem two_of {α : Type} {l : List α} (h : l.length = 2) : ∃ a b, l = [a, b] := by
  match l, h with
  | [a, b], _ => exact ⟨a, b, rfl⟩
theorem one_of {α : Type} {l : List α} (h : l.length = 1) : ∃ a, l = [a] := by
  match l, h with
  | [a], _ => exact ⟨a, rfl⟩
theorem three_of {α : Type} {l : List α} (h : l.length = 3) : ∃ a b c, l = [a, b, c] := by
  match l, h with
  | [a, b, c], _ => exact ⟨a, b, c, rfl⟩
/-- What is within an op that has a kind: how many, of which kinds. -/
inductive Shape : Int → List Int → List Vl → Int → Prop
  | two1 {op : Int} {a b : Vl} (h : 5 ≤ op ∧ op ≤ 10) (ha : Ty 1 a) (hb : Ty 1 b) : Shape op [1, 1] [a, b] 1
  | cmp {op : Int} {a b : Vl} (h : 11 ≤ op ∧ op ≤ 16) (ha : Ty 1 a) (hb : Ty 1 b) : Shape op [1, 1] [a, b] 2
  | both {op : Int} {a b : Vl} (h : op = 17 ∨ op = 18) (ha : Ty 2 a) (hb : Ty 2 b) : Shape op [2, 2] [a, b] 2
  | not {a : Vl} (ha : Ty 2 a) : Shape 19 [2] [a] 2
  | neg {a : Vl} (ha : Ty 1 a) : Shape 20 [1] [a] 1
  | cond {a b c : Vl} {k : Int} (ha : Ty 2 a) (hb : Ty k b) (hc : Ty k c) : Shape 21 [2, k, k] [a, b, c] k
theorem shape_of {op : Int} {ks : List Int} {vs : List Vl} (h4 : 4 < op) (har : ar op = (ks.length : Nat)) (hlen : vs.length = ks.length) (h : kOf op ks ≠ 0) (hty : ∀ (i : Nat) (k : Int) (v : Vl), ks[i]? = some k → vs[i]? = some v → Ty k v) : Shape op ks vs (kOf op ks) := by
  obtain ⟨-, h21'⟩ := ar_op (by omega : 0 ≤ ar op)
  by_cases h21 : op = 21
  · subst h21
    have hl : ks.length = 3 := by rw [show ar 21 = 3 by decide] at har; omega
    obtain ⟨k0, k1, k2, rfl⟩ := three_of hl
    obtain ⟨a, b, c, rfl⟩ := three_of (by rw [hlen]; rfl : vs.length = 3)
    unfold kOf at h ⊢
    simp only [if_pos] at h ⊢
    by_cases hc : ([k0, k1, k2] : List Int).getD 0 0 = 2 ∧ ([k0, k1, k2] : List Int).getD 1 0 = ([k0, k1, k2] : List Int).getD 2 0
    · rw [if_pos hc]
      simp at hc
      obtain ⟨rfl, rfl⟩ := hc
      simp only [List.getD_cons_succ, List.getD_cons_zero]
      exact .cond (hty 0 _ _ rfl rfl) (hty 1 _ _ rfl rfl) (hty 2 _ _ rfl rfl)
    · rw [if_neg hc] at h; exact absurd rfl h
  · obtain ⟨hk, he⟩ := kOf_need h21 h
    rw [he]
    unfold needK at hk
    unfold isK
    by_cases h10 : (5 ≤ op ∧ op ≤ 10) ∨ op = 20
    · rw [if_pos h10] at hk ⊢
      rcases h10 with h10 | rfl
      · obtain ⟨k0, k1, rfl⟩ := two_of (by rw [ar_two (by omega)] at har; omega : ks.length = 2)
        obtain ⟨a, b, rfl⟩ := two_of (by rw [hlen]; rfl : vs.length = 2)
        obtain rfl := hk k0 (by simp)
        obtain rfl := hk k1 (by simp)
        exact .two1 h10 (hty 0 _ _ rfl rfl) (hty 1 _ _ rfl rfl)
      · obtain ⟨k0, rfl⟩ := one_of (by rw [show ar 20 = 1 by decide] at har; omega : ks.length = 1)
        obtain ⟨a, rfl⟩ := one_of (by rw [hlen]; rfl : vs.length = 1)
        obtain rfl := hk k0 (by simp)
        exact .neg (hty 0 _ _ rfl rfl)
    · rw [if_neg h10] at hk ⊢
      by_cases h16 : 11 ≤ op ∧ op ≤ 16
      · rw [if_pos h16] at hk ⊢
        obtain ⟨k0, k1, rfl⟩ := two_of (by rw [ar_two (by omega)] at har; omega : ks.length = 2)
        obtain ⟨a, b, rfl⟩ := two_of (by rw [hlen]; rfl : vs.length = 2)
        obtain rfl := hk k0 (by simp)
        obtain rfl := hk k1 (by simp)
        exact .cmp h16 (hty 0 _ _ rfl rfl) (hty 1 _ _ rfl rfl)
      · rw [if_neg h16] at hk ⊢
        have h17 : op = 17 ∨ op = 18 ∨ op = 19 := by omega
        rw [if_pos h17] at hk ⊢
        by_cases h19 : op = 19
        · subst h19
          obtain ⟨k0, rfl⟩ := one_of (by rw [show ar 19 = 1 by decide] at har; omega : ks.length = 1)
          obtain ⟨a, rfl⟩ := one_of (by rw [hlen]; rfl : vs.length = 1)
          obtain rfl := hk k0 (by simp)
          exact .not (hty 0 _ _ rfl rfl)
        · obtain ⟨k0, k1, rfl⟩ := two_of (by rw [ar_two (by omega)] at har; omega : ks.length = 2)
          obtain ⟨a, b, rfl⟩ := two_of (by rw [hlen]; rfl : vs.length = 2)
          obtain rfl := hk k0 (by simp)
          obtain rfl := hk k1 (by simp)
          exact .both (by omega) (hty 0 _ _ rfl rfl) (hty 1 _ _ rfl rfl)
theorem ty_two {op a b : Int} (h : 5 ≤ op ∧ op ≤ 10) : Ty 1 (twoV op a b) := by unfold twoV; rw [if_pos h]; exact ty_numV _
theorem ty_cmp {op a b : Int} (h : 11 ≤ op ∧ op ≤ 16) : Ty 2 (twoV op a b) := by unfold twoV; rw [if_neg (by omega)]; exact .inr (.inr (.inr ⟨rfl, _, rfl⟩))
theorem ty_both {s : Bool} {a b : Vl} (ha : Ty 2 a) (hb : Ty 2 b) : Ty 2 (bothV s a b) := by
  unfold bothV
  repeat' split
  · exact ha
  · exact hb
  · exact .inl rfl
theorem shape_ty {op k : Int} {ks : List Int} {vs : List Vl} (h : Shape op ks vs k) : Ty k (opV op vs) := by
  cases h with
  | two1 h ha hb =>
    unfold opV
    rw [if_neg (by omega), if_neg (by omega), if_neg (by omega), if_neg (by omega)]
    repeat' split
    · exact .inr (.inl rfl)
    · exact .inl rfl
    · exact ty_two h
  | cmp h ha hb =>
    unfold opV
    rw [if_neg (by omega), if_neg (by omega), if_neg (by omega), if_neg (by omega)]
    repeat' split
    · exact .inr (.inl rfl)
    · exact .inl rfl
    · exact ty_cmp h
  | both h ha hb => unfold opV; rw [if_pos h]; exact ty_both ha hb
  | not ha =>
    unfold opV
    rw [if_neg (by omega), if_neg (by omega), if_pos rfl]
    simp only [List.getD_cons_zero]
    rename_i a
    cases a with
    | unk => exact .inl rfl
    | brk => exact .inr (.inl rfl)
    | num n => exact .inr (.inr (.inr ⟨rfl, _, rfl⟩))
    | tru t => exact .inr (.inr (.inr ⟨rfl, _, rfl⟩))
  | neg ha =>
    unfold opV
    rw [if_neg (by omega), if_neg (by omega), if_neg (by omega), if_pos rfl]
    simp only [List.getD_cons_zero]
    rename_i a
    cases a with
    | unk => exact .inl rfl
    | brk => exact .inr (.inl rfl)
    | num n => exact ty_numV _
    | tru t => exact .inr (.inr (.inl ⟨rfl, _, rfl⟩))
  | cond ha hb hc =>
    unfold opV
    rw [if_neg (by omega), if_pos rfl]
    simp only [List.getD_cons_zero, List.getD_cons_succ]
    rename_i a b c
    cases a with
    | unk => exact .inl rfl
    | brk => exact .inr (.inl rfl)
    | num n => exact hc
    | tru t => cases t <;> first | exact hc | exact hb
/-- Its value is of its kind. -/
theorem eval_ty (day : Int) (fx : List Fx) : ∀ (r : Nat) (e : Ex), e.rk ≤ r → bE e = true → kE e ≠ 0 → Ty (kE e) (evalE day fx e) := by
  intro r
  induction r with
  | zero => intro e h; have := e.rk_pos; omega
  | succ r ih =>
    intro e hr hb hk
    obtain ⟨op, n, nm, l⟩ := e
    obtain ⟨h1, -, h3⟩ := bE_inv hb
    have hkids := kid_kinds hb hk
    have hop := ar_op (by omega : 0 ≤ ar op)
    rw [kE_mk] at hk ⊢
    rw [evalE_mk]
    by_cases h4 : op ≤ 4
    · have hl : l = [] := List.length_eq_zero_iff.1 (by rw [ar_nil hop.1 h4] at h1; omega)
      subst hl
      have hk1 : kOf op (([] : List Ex).map kE) = 1 := by
        obtain ⟨-, he⟩ := kOf_need (by omega : op ≠ 21) hk
        rw [he]; unfold isK
        rw [if_neg (by omega), if_neg (by omega), if_neg (by omega)]
      rw [hk1]
      unfold evO
      by_cases h12 : op = 1 ∨ op = 2
      · rw [if_pos h12]; exact .inr (.inr (.inl ⟨rfl, _, rfl⟩))
      · rw [if_neg h12]
        by_cases h44 : op = 4
        · rw [if_pos h44]; exact .inr (.inr (.inl ⟨rfl, _, rfl⟩))
        · rw [if_neg h44, if_pos (by omega)]
          unfold seenV
          split
          · exact .inr (.inr (.inl ⟨rfl, _, rfl⟩))
          · exact .inl rfl
    · unfold evO
      rw [if_neg (by omega), if_neg (by omega), if_neg (by omega)]
      refine shape_ty (shape_of (by omega) (by rw [List.length_map]; exact h1) (by rw [List.length_map, List.length_map]) hk (fun i k v hi hv => ?_))
      rw [List.getElem?_map] at hi hv
      cases hc : l[i]? with
      | none => rw [hc] at hi; cases hi
      | some c =>
        rw [hc] at hi hv
        injection hi with hi; injection hv with hv
        subst hi; subst hv
        exact ih c (by have := Ex.rk_lt (op := op) (n := n) (nm := nm) hc; omega) (h3 c (List.mem_of_getElem? hc)) (hkids c (List.mem_of_getElem? hc))
end Go.Proofs.Ytppnmeobnilojaa

/- Values by the document's own rules; fixings more; what is unknown: plain. -/
namespace Go.Proofs.Ytppnmeobnilojaa
set_option linter.unusedVariables false
set_option linter.unusedSimpArgs false
open Go.RowKit
theorem Ty.of1 {v : Vl} (h : Ty 1 v) : v = .unk ∨ v = .brk ∨ ∃ n, v = .num n := by
  rcases h with h | h | ⟨-, h⟩ | ⟨h, -⟩
  · exact .inl h
  · exact .inr (.inl h)
  · exact .inr (.inr h)
  · omega
theorem Ty.of2 {v : Vl} (h : Ty 2 v) : v = .unk ∨ v = .brk ∨ ∃ b, v = .tru b := by
  rcases h with h | h | ⟨h, -⟩ | ⟨-, h⟩
  · exact .inl h
  · exact .inr (.inl h)
  · omega
  · exact .inr (.inr h)
/-- By the document's rules. -/
def opR (op : Int) (vs : List Vl) : Vl :=
  if op = 17 ∨ op = 18 then (if vs.getD 0 .unk = .tru (decide (op = 18)) ∨ vs.getD 0 .unk = .brk then vs.getD 0 .unk else if vs.getD 0 .unk = .unk ∧ vs.getD 1 .unk ≠ .tru (decide (op = 18)) ∧ vs.getD 1 .unk ≠ .brk then vs.getD 0 .unk else vs.getD 1 .unk)
  else if op = 21 then (if vs.getD 0 .unk = .tru true then vs.getD 1 .unk else if vs.getD 0 .unk = .tru false then vs.getD 2 .unk else vs.getD 0 .unk)
  else if vs.any (fun v => decide (v = .brk)) then .brk else if vs.any (fun v => decide (v = .unk)) then .unk
  else if op = 19 then .tru (decide (vs.getD 0 .unk = .tru false)) else if 11 ≤ op ∧ op ≤ 16 then .tru (cmpV op (vs.getD 0 .unk).N (vs.getD 1 .unk).N)
  else numV (valueM op (vs.map Vl.N))
theorem opV_two {op : Int} {a b : Vl} (h : 5 ≤ op ∧ op ≤ 16) : opV op [a, b] = if a = .brk ∨ b = .brk then .brk else if a = .unk ∨ b = .unk then .unk else twoV op a.N b.N := by
  unfold opV
  rw [if_neg (by omega), if_neg (by omega), if_neg (by omega), if_neg (by omega)]
  rfl
theorem opR_two {op : Int} {a b : Vl} (h : 5 ≤ op ∧ op ≤ 16) : opR op [a, b] = if a = .brk ∨ b = .brk then .brk else if a = .unk ∨ b = .unk then .unk else if 11 ≤ op ∧ op ≤ 16 then .tru (cmpV op a.N b.N) else numV (valueM op [a.N, b.N]) := by
  have h19 : ¬ op = 19 := by omega
  unfold opR
  rw [if_neg (by omega), if_neg (by omega)]
  simp [h19]
theorem opV_both {op : Int} {a b : Vl} (h : op = 17 ∨ op = 18) : opV op [a, b] = bothV (decide (op = 18)) a b := by unfold opV; rw [if_pos h]; rfl
theorem opR_both {op : Int} {a b : Vl} (h : op = 17 ∨ op = 18) : opR op [a, b] = if a = .tru (decide (op = 18)) ∨ a = .brk then a else if a = .unk ∧ b ≠ .tru (decide (op = 18)) ∧ b ≠ .brk then a else b := by unfold opR; rw [if_pos h]; rfl
theorem shape_ref {op k : Int} {ks : List Int} {vs : List Vl} (h : Shape op ks vs k) : opR op vs = opV op vs := by
  cases h with
  | two1 h ha hb =>
    rw [opV_two (by omega), opR_two (by omega)]
    have h11 : ¬ (11 ≤ op ∧ op ≤ 16) := by omega
    rcases ha.of1 with rfl | rfl | ⟨n, rfl⟩ <;> rcases hb.of1 with rfl | rfl | ⟨m, rfl⟩ <;> simp [h11, twoV, h, Vl.N]
  | cmp h ha hb =>
    rw [opV_two (by omega), opR_two (by omega)]
    have h5 : ¬ (5 ≤ op ∧ op ≤ 10) := by omega
    rcases ha.of1 with rfl | rfl | ⟨n, rfl⟩ <;> rcases hb.of1 with rfl | rfl | ⟨m, rfl⟩ <;> simp [h, twoV, h5, Vl.N]
  | both h ha hb =>
    rw [opV_both h, opR_both h]
    unfold bothV
    generalize decide (op = 18) = s
    rcases ha.of2 with rfl | rfl | ⟨n, rfl⟩ <;> rcases hb.of2 with rfl | rfl | ⟨m, rfl⟩ <;> simp <;> (repeat' split) <;> simp_all
  | not ha =>
    rcases ha.of2 with rfl | rfl | ⟨n, rfl⟩
    · rfl
    · rfl
    · cases n <;> rfl
  | neg ha =>
    rcases ha.of1 with rfl | rfl | ⟨n, rfl⟩
    · rfl
    · rfl
    · simp [opR, opV, valueM, Vl.N]
  | cond ha hb hc =>
    rename_i a b c
    rcases ha.of2 with rfl | rfl | ⟨n, rfl⟩
    · rfl
    · rfl
    · cases n <;> rfl
/-- Unknown comes of what is unknown. -/
theorem shape_unk {op k : Int} {ks : List Int} {vs : List Vl} (h : Shape op ks vs k) (hu : opV op vs = .unk) : .unk ∈ vs := by
  apply Classical.byContradiction
  intro hn
  revert hu
  have hnum : ∀ o, numV o ≠ .unk := fun o => by cases o <;> simp [numV]
  cases h with
  | two1 h ha hb =>
    rw [opV_two (by omega)]
    rcases ha.of1 with rfl | rfl | ⟨n, rfl⟩ <;> rcases hb.of1 with rfl | rfl | ⟨m, rfl⟩ <;> simp [twoV, h, hnum] at hn ⊢
  | cmp h ha hb =>
    rw [opV_two (by omega)]
    have h5 : ¬ (5 ≤ op ∧ op ≤ 10) := by omega
    rcases ha.of1 with rfl | rfl | ⟨n, rfl⟩ <;> rcases hb.of1 with rfl | rfl | ⟨m, rfl⟩ <;> simp [twoV, h5] at hn ⊢
  | both h ha hb =>
    rw [opV_both h]
    unfold bothV
    generalize decide (op = 18) = s
    rcases ha.of2 with rfl | rfl | ⟨n, rfl⟩ <;> rcases hb.of2 with rfl | rfl | ⟨m, rfl⟩ <;> simp at hn ⊢ <;> (repeat' split) <;> simp_all
  | not ha => rcases ha.of2 with rfl | rfl | ⟨n, rfl⟩ <;> simp [opV] at hn ⊢
  | neg ha => rcases ha.of1 with rfl | rfl | ⟨n, rfl⟩ <;> simp [opV, hnum] at hn ⊢
  | cond ha hb hc =>
    rename_i a b c
    simp at hn
    rcases ha.of2 with rfl | rfl | ⟨n, rfl⟩
    · exact absurd rfl hn.1
    · simp [opV]
    · cases n
      · simpa [opV] using fun e => hn.2.2 e.symm
      · simpa [opV] using fun e => hn.2.1 e.symm
/-- What may come of a value by a fixing more. -/
def Rl (a b : Vl) : Prop := a = .unk ∨ a = .brk ∨ b = .brk ∨ a = b
theorem Rl.refl (a : Vl) : Rl a a := .inr (.inr (.inr rfl))
theorem shape_mono {op k : Int} {ks : List Int} {vs vs' : List Vl} (h : Shape op ks vs k) (h' : Shape op ks vs' k) (hr : ∀ (i : Nat) (a b : Vl), vs[i]? = some a → vs'[i]? = some b → Rl a b) : Rl (opV op vs) (opV op vs') := by
  cases h with
  | two1 h ha hb =>
    cases h' with
    | two1 _ ha' hb' =>
      have r0 := hr 0 _ _ rfl rfl
      have r1 := hr 1 _ _ rfl rfl
      rw [opV_two (by omega), opV_two (by omega)]
      rcases ha.of1 with rfl | rfl | ⟨n, rfl⟩ <;> rcases hb.of1 with rfl | rfl | ⟨m, rfl⟩ <;> rcases ha'.of1 with rfl | rfl | ⟨n', rfl⟩ <;> rcases hb'.of1 with rfl | rfl | ⟨m', rfl⟩ <;> simp [Rl, Vl.N] at r0 r1 ⊢ <;> simp_all
  | cmp h ha hb =>
    cases h' with
    | cmp _ ha' hb' =>
      have r0 := hr 0 _ _ rfl rfl
      have r1 := hr 1 _ _ rfl rfl
      rw [opV_two (by omega), opV_two (by omega)]
      rcases ha.of1 with rfl | rfl | ⟨n, rfl⟩ <;> rcases hb.of1 with rfl | rfl | ⟨m, rfl⟩ <;> rcases ha'.of1 with rfl | rfl | ⟨n', rfl⟩ <;> rcases hb'.of1 with rfl | rfl | ⟨m', rfl⟩ <;> simp [Rl, Vl.N] at r0 r1 ⊢ <;> simp_all
  | both h ha hb =>
    cases h' with
    | both _ ha' hb' =>
      have r0 := hr 0 _ _ rfl rfl
      have r1 := hr 1 _ _ rfl rfl
      rw [opV_both h, opV_both h]
      unfold bothV
      generalize decide (op = 18) = s
      rcases ha.of2 with rfl | rfl | ⟨n, rfl⟩ <;> rcases hb.of2 with rfl | rfl | ⟨m, rfl⟩ <;> rcases ha'.of2 with rfl | rfl | ⟨n', rfl⟩ <;> rcases hb'.of2 with rfl | rfl | ⟨m', rfl⟩ <;> simp [Rl] at r0 r1 ⊢ <;> (repeat' split) <;> simp_all
  | not ha =>
    cases h' with
    | not ha' =>
      have r0 := hr 0 _ _ rfl rfl
      rcases ha.of2 with rfl | rfl | ⟨n, rfl⟩ <;> rcases ha'.of2 with rfl | rfl | ⟨n', rfl⟩ <;> simp [Rl, opV] at r0 ⊢ <;> simp_all
  | neg ha =>
    cases h' with
    | neg ha' =>
      have r0 := hr 0 _ _ rfl rfl
      rcases ha.of1 with rfl | rfl | ⟨n, rfl⟩ <;> rcases ha'.of1 with rfl | rfl | ⟨n', rfl⟩ <;> simp [Rl, opV] at r0 ⊢ <;> simp_all
  | cond ha hb hc =>
    cases h' with
    | cond ha' hb' hc' =>
      have r0 := hr 0 _ _ rfl rfl
      have r1 := hr 1 _ _ rfl rfl
      have r2 := hr 2 _ _ rfl rfl
      rcases ha.of2 with rfl | rfl | ⟨n, rfl⟩
      · exact .inl rfl
      · exact .inr (.inl rfl)
      · rcases ha'.of2 with rfl | rfl | ⟨n', rfl⟩
        · simp [Rl] at r0
        · exact .inr (.inr (.inl rfl))
        · simp [Rl] at r0
          subst r0
          cases n <;> simpa [opV] using (by assumption)
/-- By the document's rules, all of it. -/
noncomputable def evD (day : Int) (fx : List Fx) (op n : Int) (nm : ByteArray) (vs : List Vl) : Vl :=
  if op = 1 ∨ op = 2 then .num n else if op = 4 then .num day else if op = 3 then seenV day fx nm else opR op vs
noncomputable def evalD (day : Int) (fx : List Fx) : Ex → Vl
  | .mk op n nm l => evD day fx op n nm (go l)
  where go : List Ex → List Vl
  | [] => []
  | e :: t => evalD day fx e :: go t
theorem evalD_go (day : Int) (fx : List Fx) (l : List Ex) : evalD.go day fx l = l.map (evalD day fx) := by
  induction l with
  | nil => rfl
  | cons x t ih => simp only [evalD.go, ih, List.map_cons]
theorem evalD_mk (day : Int) (fx : List Fx) (op n : Int) (nm : ByteArray) (l : List Ex) : evalD day fx (.mk op n nm l) = evD day fx op n nm (l.map (evalD day fx)) := by rw [evalD, evalD_go]
/-- The values within an expression that has a kind have its shape. -/
theorem eval_shape (day : Int) (fx : List Fx) {op n : Int} {nm : ByteArray} {l : List Ex} (hb : bE (.mk op n nm l) = true) (hk : kE (.mk op n nm l) ≠ 0) (h4 : 4 < op) :
    Shape op (l.map kE) (l.map (evalE day fx)) (kE (.mk op n nm l)) := by
  obtain ⟨h1, -, h3⟩ := bE_inv hb
  have hkids := kid_kinds hb hk
  rw [kE_mk] at hk ⊢
  refine shape_of h4 (by rw [List.length_map]; exact h1) (by rw [List.length_map, List.length_map]) hk (fun i k v hi hv => ?_)
  rw [List.getElem?_map] at hi hv
  cases hc : l[i]? with
  | none => rw [hc] at hi; cases hi
  | some c =>
    rw [hc] at hi hv
    injection hi with hi; injection hv with hv
    subst hi; subst hv
    exact eval_ty day fx _ c (Nat.le_refl _) (h3 c (List.mem_of_getElem? hc)) (hkids c (List.mem_of_getElem? hc))
theorem evalD_eq (day : Int) (fx : List Fx) : ∀ (r : Nat) (e : Ex), e.rk ≤ r → bE e = true → kE e ≠ 0 → evalD day fx e = evalE day fx e := by
  intro r
  induction r with
  | zero => intro e h; have := e.rk_pos; omega
  | succ r ih =>
    intro e hr hb hk
    obtain ⟨op, n, nm, l⟩ := e
    obtain ⟨h1, -, h3⟩ := bE_inv hb
    have hkids := kid_kinds hb hk
    have hop := ar_op (by omega : 0 ≤ ar op)
    have hmap : l.map (evalD day fx) = l.map (evalE day fx) := List.map_congr_left (fun c hc => by
      obtain ⟨k, hkk⟩ := List.getElem?_of_mem hc
      exact ih c (by have := Ex.rk_lt (op := op) (n := n) (nm := nm) hkk; omega) (h3 c hc) (hkids c hc))
    rw [evalD_mk, evalE_mk, hmap]
    unfold evD evO
    by_cases h4 : op ≤ 4
    · repeat' split
      all_goals first | rfl | omega
    · rw [if_neg (by omega), if_neg (by omega), if_neg (by omega), if_neg (by omega), if_neg (by omega), if_neg (by omega)]
      exact shape_ref (eval_shape day fx hb hk (by omega))
/-- What is unknown has an observable that wasn't seen. -/
theorem eval_unk (day : Int) (fx : List Fx) : ∀ (r : Nat) (e : Ex), e.rk ≤ r → bE e = true → kE e ≠ 0 → evalE day fx e = .unk → ∃ s ∈ obsE e, seenV day fx s = .unk := by
  intro r
  induction r with
  | zero => intro e h; have := e.rk_pos; omega
  | succ r ih =>
    intro e hr hb hk hu
    obtain ⟨op, n, nm, l⟩ := e
    obtain ⟨h1, -, h3⟩ := bE_inv hb
    have hkids := kid_kinds hb hk
    by_cases h4 : op ≤ 4
    · rw [evalE_mk] at hu
      unfold evO at hu
      by_cases h12 : op = 1 ∨ op = 2
      · rw [if_pos h12] at hu; cases hu
      · rw [if_neg h12] at hu
        by_cases h44 : op = 4
        · rw [if_pos h44] at hu; cases hu
        · have h33 : op = 3 := by have := ar_op (by omega : 0 ≤ ar op); omega
          rw [if_neg h44, if_pos h33] at hu
          refine ⟨nm, ?_, hu⟩
          rw [obsE, if_pos h33]; simp
    · have hs := eval_shape day fx hb hk (by omega)
      rw [evalE_mk] at hu
      unfold evO at hu
      rw [if_neg (by omega), if_neg (by omega), if_neg (by omega)] at hu
      obtain ⟨c, hc, hcu⟩ := List.mem_map.1 (shape_unk hs hu)
      obtain ⟨k, hkk⟩ := List.getElem?_of_mem hc
      obtain ⟨s, hs, hsu⟩ := ih c (by have := Ex.rk_lt (op := op) (n := n) (nm := nm) hkk; omega) (h3 c hc) (hkids c hc) hcu
      refine ⟨s, ?_, hsu⟩
      rw [obsE]
      exact List.mem_append.2 (.inr (obs_go.2 ⟨c, hc, hs⟩))
/-- Where each name's value may have come to be another one by a fixing more. -/
theorem eval_mono (day : Int) (fx fx' : List Fx) (hse : ∀ s, Rl (seenV day fx s) (seenV day fx' s)) : ∀ (r : Nat) (e : Ex), e.rk ≤ r → bE e = true → kE e ≠ 0 → Rl (evalE day fx e) (evalE day fx' e) := by
  intro r
  induction r with
  | zero => intro e h; have := e.rk_pos; omega
  | succ r ih =>
    intro e hr hb hk
    obtain ⟨op, n, nm, l⟩ := e
    obtain ⟨h1, -, h3⟩ := bE_inv hb
    have hkids := kid_kinds hb hk
    by_cases h4 : op ≤ 4
    · rw [evalE_mk, evalE_mk]
      unfold evO
      by_cases h12 : op = 1 ∨ op = 2
      · rw [if_pos h12, if_pos h12]; exact Rl.refl _
      · rw [if_neg h12, if_neg h12]
        by_cases h44 : op = 4
        · rw [if_pos h44, if_pos h44]; exact Rl.refl _
        · have h33 : op = 3 := by have := ar_op (by omega : 0 ≤ ar op); omega
          rw [if_neg h44, if_neg h44, if_pos h33, if_pos h33]
          exact hse nm
    · have hs := eval_shape day fx hb hk (by omega)
      have hs' := eval_shape day fx' hb hk (by omega)
      rw [evalE_mk, evalE_mk]
      unfold evO
      rw [if_neg (by omega), if_neg (by omega), if_neg (by omega), if_neg (by omega), if_neg (by omega), if_neg (by omega)]
      refine shape_mono hs hs' (fun i a b ha hb' => ?_)
      rw [List.getElem?_map] at ha hb'
      cases hc : l[i]? with
      | none => rw [hc] at ha; cases ha
      | some c =>
        rw [hc] at ha hb'
        injection ha with ha; injection hb' with hb'
        subst ha; subst hb'
        exact ih c (by have := Ex.rk_lt (op := op) (n := n) (nm := nm) hc; omega) (h3 c (List.mem_of_getElem? hc)) (hkids c (List.mem_of_getElem? hc))
/-- Where all names' values are the same, so is its own. -/
theorem eval_same (day : Int) (fx fx' : List Fx) (hse : ∀ s, seenV day fx s = seenV day fx' s) : ∀ (r : Nat) (e : Ex), e.rk ≤ r → evalE day fx e = evalE day fx' e := by
  intro r
  induction r with
  | zero => intro e h; have := e.rk_pos; omega
  | succ r ih =>
    intro e hr
    obtain ⟨op, n, nm, l⟩ := e
    have hmap : l.map (evalE day fx) = l.map (evalE day fx') := List.map_congr_left (fun c hc => by
      obtain ⟨k, hkk⟩ := List.getElem?_of_mem hc
      exact ih c (by have := Ex.rk_lt (op := op) (n := n) (nm := nm) hkk; omega))
    rw [evalE_mk, evalE_mk, hmap]
    unfold evO
    rw [hse nm]
theorem seenF_snoc (day : Int) (nm : ByteArray) (m : Fx) : ∀ (fx : List Fx) (b : Option (Int × Int)),
    seenF day nm (fx ++ [m]) b = if eqv m.name nm = true ∧ m.day ≤ day ∧ (∀ p, seenF day nm fx b = some p → p.1 < m.day) then some (m.day, m.val) else seenF day nm fx b
  | [], b => by simp only [List.nil_append, seenF]; congr
  | f :: t, b => by rw [List.cons_append, seenF, seenF, seenF_snoc day nm m t]
theorem seen_later (day : Int) (fx : List Fx) (m : Fx) (h : day < m.day) (s : ByteArray) : seenV day fx s = seenV day (fx ++ [m]) s := by
  unfold seenV
  rw [seenF_snoc, if_neg (by intro hh; omega)]
theorem seen_more (day : Int) (fx : List Fx) (m : Fx) (h : seenV day fx m.name = .unk) (s : ByteArray) : Rl (seenV day fx s) (seenV day (fx ++ [m]) s) := by
  by_cases hs : m.name = s
  · subst hs; exact .inl h
  · have : seenV day (fx ++ [m]) s = seenV day fx s := by
      unfold seenV
      rw [seenF_snoc, if_neg (by intro hh; exact hs (eqv_iff.1 hh.1))]
    rw [this]; exact Rl.refl _
end Go.Proofs.Ytppnmeobnilojaa

/- Fixings in memory, and the one that counts: plain. -/
namespace Go.Proofs.Ytppnmeobnilojaa
set_option linter.unusedVariables false
set_option linter.unusedSimpArgs false
open Go.RowKit
def fxC (f : Fx) : List Value := [.string f.name, .int .i64 f.day, .int .i64 f.val]
def fxK : Elt Fx where
  sz := 3
  pos := by decide
  R := fun _ _ f cs => cs = fxC f ∧ f.name.size ≤ 9223372036854775807 ∧ I64 f.day ∧ I64 f.val
  kept := fun h _ => h
  less := fun h _ => h
  one := fun h => by obtain ⟨rfl, _⟩ := h; exact ⟨rfl, by simp [fxC, Value.oneCell']⟩
/-- The k-th fixing's cells. -/
theorem fx_at {w : World} {X : List Nat} {fx : List Fx} {a : Option Addr} {len cap : Nat} (h : SlR fxK w X fx a len cap) (k : Nat) (hk : k < len) :
    ∃ b o f, a = some ⟨b, o, none⟩ ∧ b < w.heap.size ∧ b ∉ X ∧ fx[k]? = some f ∧ f.name.size ≤ 9223372036854775807 ∧ I64 f.day ∧ I64 f.val ∧ w.cell? ⟨b, o + k * 3, none⟩ = some (.string f.name) ∧ w.cell? ⟨b, o + k * 3 + 1, none⟩ = some (.int .i64 f.day) ∧ w.cell? ⟨b, o + k * 3 + 2, none⟩ = some (.int .i64 f.val) := by
  obtain ⟨b, o, f, cs, ha, hb, hX, hf, ⟨rfl, h1, h2, h3⟩, -, hc⟩ := h.at k hk
  exact ⟨b, o, f, ha, hb, hX, hf, h1, h2, h3, hc 0 _ rfl, hc 1 _ rfl, hc 2 _ rfl⟩
/-- What is answered of a name. -/
def seenRt : Vl → Ending
  | .num n => .returned (.tuple #[.int .i64 n, .bool true])
  | _ => .returned (.tuple #[.int .i64 0, .bool false])
def stF (fx : List Fx) (s : Int) : Option (Int × Int) := if s < 0 then none else (fx[s.toNat]?).map fun f => (f.day, f.val)
/-- Where the search stands: k are seen, s is the best of them. -/
structure Best (day : Int) (nm : ByteArray) (fx : List Fx) (k : Nat) (s : Int) : Prop where
  lo : -1 ≤ s
  hi : s < (k : Nat)
  eq : seenF day nm fx none = seenF day nm (fx.drop k) (stF fx s)
theorem Best.start (day : Int) (nm : ByteArray) (fx : List Fx) : Best day nm fx 0 (-1) := ⟨by omega, by omega, by simp [stF]⟩
theorem seenF_step {day : Int} {nm : ByteArray} {fx : List Fx} {k : Nat} {f : Fx} (hf : fx[k]? = some f) (b : Option (Int × Int)) :
    seenF day nm (fx.drop k) b = seenF day nm (fx.drop (k + 1)) (if eqv f.name nm = true ∧ f.day ≤ day ∧ (∀ p, b = some p → p.1 < f.day) then some (f.day, f.val) else b) := by
  obtain ⟨hk, he⟩ := List.getElem?_eq_some_iff.1 hf
  rw [List.drop_eq_getElem_cons hk, he, seenF]
theorem Best.skip {day : Int} {nm : ByteArray} {fx : List Fx} {k : Nat} {s : Int} {f : Fx} (h : Best day nm fx k s) (hf : fx[k]? = some f) (hn : ¬ (f.name = nm ∧ f.day ≤ day ∧ (∀ p, stF fx s = some p → p.1 < f.day))) : Best day nm fx (k + 1) s :=
  ⟨h.lo, by have := h.hi; omega, by rw [h.eq, seenF_step hf, if_neg (by rw [eqv_iff]; exact hn)]⟩
theorem Best.take {day : Int} {nm : ByteArray} {fx : List Fx} {k : Nat} {s : Int} {f : Fx} (h : Best day nm fx k s) (hf : fx[k]? = some f) (hn : f.name = nm ∧ f.day ≤ day ∧ (∀ p, stF fx s = some p → p.1 < f.day)) : Best day nm fx (k + 1) (k : Nat) :=
  ⟨by omega, by omega, by
    rw [h.eq, seenF_step hf, if_pos (by rw [eqv_iff]; exact hn)]
    unfold stF
    rw [if_neg (by omega), Int.toNat_natCast, hf]; rfl⟩
theorem Best.none {day : Int} {nm : ByteArray} {fx : List Fx} {s : Int} (h : Best day nm fx fx.length s) (hs : s < 0) : seenV day fx nm = .unk := by
  have := h.eq
  rw [List.drop_length, seenF, stF, if_pos hs] at this
  unfold seenV; rw [this]
theorem Best.some {day : Int} {nm : ByteArray} {fx : List Fx} {s : Nat} {f : Fx} (h : Best day nm fx fx.length (s : Nat)) (hf : fx[s]? = some f) : seenV day fx nm = .num f.val := by
  have := h.eq
  rw [List.drop_length, seenF, stF, if_neg (by omega), Int.toNat_natCast, hf] at this
  unfold seenV; rw [this]; rfl
theorem stF_neg {fx : List Fx} {s : Int} (h : s < 0) : ∀ (f : Fx) p, stF fx s = Option.some p → p.1 < f.day := by
  intro f p hp; rw [stF, if_pos h] at hp; cases hp
theorem stF_nat {fx : List Fx} {j : Nat} {g : Fx} (h : fx[j]? = Option.some g) : stF fx (j : Nat) = Option.some (g.day, g.val) := by
  rw [stF, if_neg (by omega), Int.toNat_natCast, h]; rfl
/-- By the document's words: found, its day, its value. -/
structure BestR (day : Int) (nm : ByteArray) (fx : List Fx) (k : Nat) (b : Bool) (d n : Int) : Prop where
  eq : seenF day nm fx .none = seenF day nm (fx.drop k) (if b then .some (d, n) else .none)
  no : b = false → d = 0 ∧ n = 0
theorem BestR.start (day : Int) (nm : ByteArray) (fx : List Fx) : BestR day nm fx 0 false 0 0 := ⟨by simp, fun _ => ⟨rfl, rfl⟩⟩
theorem BestR.skip {day : Int} {nm : ByteArray} {fx : List Fx} {k : Nat} {b : Bool} {d n : Int} {f : Fx} (h : BestR day nm fx k b d n) (hf : fx[k]? = .some f) (hn : ¬ (f.name = nm ∧ f.day ≤ day ∧ (b = true → d < f.day))) : BestR day nm fx (k + 1) b d n :=
  ⟨by
    rw [h.eq, seenF_step hf, if_neg]
    rw [eqv_iff]
    rintro ⟨h1, h2, h3⟩
    exact hn ⟨h1, h2, fun hb => h3 (d, n) (by rw [if_pos hb])⟩, h.no⟩
theorem BestR.take {day : Int} {nm : ByteArray} {fx : List Fx} {k : Nat} {b : Bool} {d n : Int} {f : Fx} (h : BestR day nm fx k b d n) (hf : fx[k]? = .some f) (hn : f.name = nm ∧ f.day ≤ day ∧ (b = true → d < f.day)) : BestR day nm fx (k + 1) true f.day f.val :=
  ⟨by
    rw [h.eq, seenF_step hf, if_pos, if_pos rfl]
    rw [eqv_iff]
    refine ⟨hn.1, hn.2.1, fun p hp => ?_⟩
    cases b with
    | false => rw [if_neg (by simp)] at hp; cases hp
    | true => rw [if_pos rfl] at hp; injection hp with hp; subst hp; exact hn.2.2 rfl, fun h => by cases h⟩
theorem BestR.done {day : Int} {nm : ByteArray} {fx : List Fx} {b : Bool} {d n : Int} (h : BestR day nm fx fx.length b d n) : seenRt (seenV day fx nm) = .returned (.tuple #[.int .i64 n, .bool b]) := by
  have e := h.eq
  rw [List.drop_length, seenF] at e
  unfold seenV; rw [e]
  cases b with
  | false => rw [(h.no rfl).2]; rfl
  | true => rfl
end Go.Proofs.Ytppnmeobnilojaa

/- The contracts of obs.number, truth and two. -/
namespace Go.Proofs.Ytppnmeobnilojaa
set_option linter.unusedVariables false
set_option linter.unusedSimpArgs false
open Go.RowKit
def Vl.K : Vl → Int | .unk => 0 | .num _ => 1 | .tru _ => 2 | .brk => 3
/-- A value as it is answered. -/
def RetV (v : Vl) (x : Ending) : Prop := x = .returned (.agg #[.int .i64 v.K, .int .i64 v.N, .bool v.B])
def nmV (n : Int) (b : Bool) : Vl := if b then .num n else .brk
theorem nmV_fit (o : Option Int) : nmV (fitN o) (fitB o) = numV o := by cases o <;> rfl
theorem blk3 {w : World} {g : Nat} {t : TypeId} {a b c : Value} (h : Mem.Blk w g t #[a, b, c]) : w.cell? ⟨g, 0, none⟩ = some a ∧ w.cell? ⟨g, 1, none⟩ = some b ∧ w.cell? ⟨g, 2, none⟩ = some c ∧
    w.frozen? ⟨g, 0, none⟩ = false ∧ w.frozen? ⟨g, 1, none⟩ = false ∧ w.frozen? ⟨g, 2, none⟩ = false := ⟨h.cell 0, h.cell 1, h.cell 2, h.frozen 0, h.frozen 1, h.frozen 2⟩
theorem ret3 {w w1 : World} {g : Nat} {ty : TypeId} {b0 b1 b2 : Value} (c0 c1 c2 : Value) (hb : Below w.heap.size w w1) (hg : w.heap.size ≤ g) (hB : Mem.Blk w1 g ty #[b0, b1, b2]) :
    Below w.heap.size w (((w1.setCell ⟨g, 0, none⟩ c0).setCell ⟨g, 1, none⟩ c1).setCell ⟨g, 2, none⟩ c2) ∧ Mem.Blk (((w1.setCell ⟨g, 0, none⟩ c0).setCell ⟨g, 1, none⟩ c1).setCell ⟨g, 2, none⟩ c2) g ty #[c0, c1, c2] :=
  ⟨((hb.setCell hg _).setCell hg _).setCell hg _, ((hB.set_ 0 _).set_ 1 _).set_ 2 _⟩
theorem below_two (w : World) (a : Obj) : Below w.heap.size w (w.alloc a) := (Below.refl _ _).alloc (Nat.le_refl _) a
set_option maxHeartbeats 1000000 in
theorem number_any (n : Int) (b : Bool) (w : World) : Calls Try.prog 97 #[.int .i64 n, .bool b] w fun x w' => RetV (nmV n b) x ∧ Below w.heap.size w w' := by
  have BX := Lib.hid (Mem.Blk.new w 73 #[.int .i64 0, .int .i64 0, .bool false])
  have HB := Lib.hid (below_two w (.cells #[.int .i64 0, .int .i64 0, .bool false] 73))
  go_enter Try.func97, Try.ntmps97
  go_upto_region 1 with (fail)
  generalize w.alloc (.cells #[.int .i64 0, .int .i64 0, .bool false] 73) = v at *
  obtain ⟨t0, t1, t2, t3, t4, t5⟩ := blk3 BX.out
  have hm := BX.out.lt
  cases b with
  | false =>
    have HFN := Lib.hid (ret3 (.int .i64 3) (.int .i64 0) (.bool false) HB.out (Nat.le_refl _) BX.out)
    go_wp2_with fail
    generalize ((v.setCell ⟨w.heap.size, 0, none⟩ (.int .i64 3)).setCell ⟨w.heap.size, 1, none⟩ (.int .i64 0)).setCell ⟨w.heap.size, 2, none⟩ (.bool false) = W9 at *
    obtain ⟨r0, r1, r2, -, -, -⟩ := blk3 HFN.out.2
    refine bodyPost_ret (v := .agg #[.int .i64 3, .int .i64 0, .bool false]) (by simp [results, Try.results97, go_sem, r0, r1, r2]) rfl ⟨rfl, HFN.out.1⟩
  | true =>
    have HFN := Lib.hid (ret3 (.int .i64 1) (.int .i64 n) (.bool false) HB.out (Nat.le_refl _) BX.out)
    go_wp2_with fail
    generalize ((v.setCell ⟨w.heap.size, 0, none⟩ (.int .i64 1)).setCell ⟨w.heap.size, 1, none⟩ (.int .i64 n)).setCell ⟨w.heap.size, 2, none⟩ (.bool false) = W9 at *
    obtain ⟨r0, r1, r2, -, -, -⟩ := blk3 HFN.out.2
    refine bodyPost_ret (v := .agg #[.int .i64 1, .int .i64 n, .bool false]) (by simp [results, Try.results97, go_sem, r0, r1, r2]) rfl ⟨rfl, HFN.out.1⟩
set_option maxHeartbeats 1000000 in
theorem truth_any (b : Bool) (w : World) : Calls Try.prog 99 #[.bool b] w fun x w' => RetV (.tru b) x ∧ Below w.heap.size w w' := by
  have BX := Lib.hid (Mem.Blk.new w 73 #[.int .i64 0, .int .i64 0, .bool false])
  have HB := Lib.hid (below_two w (.cells #[.int .i64 0, .int .i64 0, .bool false] 73))
  go_enter Try.func99, Try.ntmps99
  go_upto_region 1 with (fail)
  generalize w.alloc (.cells #[.int .i64 0, .int .i64 0, .bool false] 73) = v at *
  obtain ⟨t0, t1, t2, t3, t4, t5⟩ := blk3 BX.out
  have hm := BX.out.lt
  have HFN := Lib.hid (ret3 (.int .i64 2) (.int .i64 0) (.bool b) HB.out (Nat.le_refl _) BX.out)
  go_wp2_with fail
  generalize ((v.setCell ⟨w.heap.size, 0, none⟩ (.int .i64 2)).setCell ⟨w.heap.size, 1, none⟩ (.int .i64 0)).setCell ⟨w.heap.size, 2, none⟩ (.bool b) = W9 at *
  obtain ⟨r0, r1, r2, -, -, -⟩ := blk3 HFN.out.2
  refine bodyPost_ret (v := .agg #[.int .i64 2, .int .i64 0, .bool b]) (by simp [results, Try.results99, go_sem, r0, r1, r2]) rfl ⟨rfl, HFN.out.1⟩
set_option maxRecDepth 100000 in
set_option maxHeartbeats 2000000 in
theorem two_any (op a b : Int) (w : World) (h : 5 ≤ op ∧ op ≤ 16) (ha : I64 a) (hb : I64 b) : Calls Try.prog 101 #[.int .i64 op, .int .i64 a, .int .i64 b] w fun x w' => RetV (twoV op a b) x ∧ Below w.heap.size w w' := by
  have BX := Lib.hid (Mem.Blk.new w 73 #[.int .i64 0, .int .i64 0, .bool false])
  have HB := Lib.hid (below_two w (.cells #[.int .i64 0, .int .i64 0, .bool false] 73))
  have HA := Lib.hid ha
  have HBB := Lib.hid hb
  have HV := Lib.hid (show valueM op [a, b] = if op = 5 then fitI (a + b) else if op = 6 then fitI (a - b) else if op = 7 then fitI (a * b) else if op = 8 then (if b = 0 then none else fitI (a.fdiv b)) else if op = 9 then some (min a b) else if op = 10 then some (max a b) else if op = 20 then fitI (-a) else none from rfl)
  have HT : Hid (twoV op a b = if 5 ≤ op ∧ op ≤ 10 then numV (valueM op [a, b]) else .tru (cmpV op a b)) := rfl
  obtain ⟨R, hR⟩ : ∃ R, R = twoV op a b := ⟨_, rfl⟩
  rw [← hR] at HT ⊢
  rw [HV.out] at HT
  unfold I64 at ha hb
  obtain ⟨a1, a2⟩ := ha
  obtain ⟨b1, b2⟩ := hb
  clear hR HV
  have hop : op = 5 ∨ op = 6 ∨ op = 7 ∨ op = 8 ∨ op = 9 ∨ op = 10 ∨ op = 11 ∨ op = 12 ∨ op = 13 ∨ op = 14 ∨ op = 15 ∨ op = 16 := by omega
  rcases hop with rfl | rfl | rfl | rfl | rfl | rfl | rfl | rfl | rfl | rfl | rfl | rfl
  · have HR : Hid (nmV (fitN (fitI (a + b))) (fitB (fitI (a + b))) = R) := by rw [HT.out, nmV_fit]; rfl
    clear HT h
    go_enter Try.func101, Try.ntmps101
    go_upto_region 1 with (fail)
    generalize w.alloc (.cells #[.int .i64 0, .int .i64 0, .bool false] 73) = v at *
    obtain ⟨t0, t1, t2, t3, t4, t5⟩ := blk3 BX.out
    have hm := BX.out.lt
    go_wp2_with fail
    go_at_call 118
    (with_reducible refine (numAdd_any _ _ _ HA.out HBB.out).mono ?_)
    rintro x w1 ⟨rfl, rfl⟩
    clear t0 t1 t2 t3 t4 t5 hm
    have HB1 := Lib.hid (HB.out)
    have BX1 := Lib.hid (BX.out)
    unfold fitR
    generalize (fitI (a + b)) = oo at *
    generalize fitN oo = n9 at *
    generalize fitB oo = b9 at *
    go_wp2_with fail
    go_at_call 97
    (with_reducible refine (number_any _ _ _).mono ?_)
    rintro x w2 ⟨hx, e2⟩
    rw [HR.out] at hx
    subst hx
    have HP : Hid (RetV R (.returned (.agg #[.int .i64 R.K, .int .i64 R.N, .bool R.B]))) := rfl
    have HFN := Lib.hid (ret3 (.int .i64 R.K) (.int .i64 R.N) (.bool R.B) (HB1.out.trans (e2.mono HB1.out.size)) (Nat.le_refl _) (BX1.out.below e2))
    obtain ⟨t0, t1, t2, t3, t4, t5⟩ := blk3 (BX1.out.below e2)
    have hm := (BX1.out.below e2).lt
    generalize R.K = rk at *
    generalize R.N = rn at *
    generalize R.B = rb at *
    clear e2
    go_wp2_with fail
    generalize ((w2.setCell ⟨w.heap.size, 0, none⟩ (.int .i64 rk)).setCell ⟨w.heap.size, 1, none⟩ (.int .i64 rn)).setCell ⟨w.heap.size, 2, none⟩ (.bool rb) = W9 at *
    obtain ⟨r0, r1, r2, -, -, -⟩ := blk3 HFN.out.2
    refine bodyPost_ret (v := .agg #[.int .i64 rk, .int .i64 rn, .bool rb]) (by simp [results, Try.results101, go_sem, r0, r1, r2]) rfl ⟨HP.out, HFN.out.1⟩
  · have HR : Hid (nmV (fitN (fitI (a - b))) (fitB (fitI (a - b))) = R) := by rw [HT.out, nmV_fit]; rfl
    clear HT h
    go_enter Try.func101, Try.ntmps101
    go_upto_region 1 with (fail)
    generalize w.alloc (.cells #[.int .i64 0, .int .i64 0, .bool false] 73) = v at *
    obtain ⟨t0, t1, t2, t3, t4, t5⟩ := blk3 BX.out
    have hm := BX.out.lt
    go_wp2_with fail
    go_at_call 119
    (with_reducible refine (numSub_any _ _ _ HA.out HBB.out).mono ?_)
    rintro x w1 ⟨rfl, rfl⟩
    clear t0 t1 t2 t3 t4 t5 hm
    have HB1 := Lib.hid (HB.out)
    have BX1 := Lib.hid (BX.out)
    unfold fitR
    generalize (fitI (a - b)) = oo at *
    generalize fitN oo = n9 at *
    generalize fitB oo = b9 at *
    go_wp2_with fail
    go_at_call 97
    (with_reducible refine (number_any _ _ _).mono ?_)
    rintro x w2 ⟨hx, e2⟩
    rw [HR.out] at hx
    subst hx
    have HP : Hid (RetV R (.returned (.agg #[.int .i64 R.K, .int .i64 R.N, .bool R.B]))) := rfl
    have HFN := Lib.hid (ret3 (.int .i64 R.K) (.int .i64 R.N) (.bool R.B) (HB1.out.trans (e2.mono HB1.out.size)) (Nat.le_refl _) (BX1.out.below e2))
    obtain ⟨t0, t1, t2, t3, t4, t5⟩ := blk3 (BX1.out.below e2)
    have hm := (BX1.out.below e2).lt
    generalize R.K = rk at *
    generalize R.N = rn at *
    generalize R.B = rb at *
    clear e2
    go_wp2_with fail
    generalize ((w2.setCell ⟨w.heap.size, 0, none⟩ (.int .i64 rk)).setCell ⟨w.heap.size, 1, none⟩ (.int .i64 rn)).setCell ⟨w.heap.size, 2, none⟩ (.bool rb) = W9 at *
    obtain ⟨r0, r1, r2, -, -, -⟩ := blk3 HFN.out.2
    refine bodyPost_ret (v := .agg #[.int .i64 rk, .int .i64 rn, .bool rb]) (by simp [results, Try.results101, go_sem, r0, r1, r2]) rfl ⟨HP.out, HFN.out.1⟩
  · have HR : Hid (nmV (fitN (fitI (a * b))) (fitB (fitI (a * b))) = R) := by rw [HT.out, nmV_fit]; rfl
    clear HT h
    go_enter Try.func101, Try.ntmps101
    go_upto_region 1 with (fail)
    generalize w.alloc (.cells #[.int .i64 0, .int .i64 0, .bool false] 73) = v at *
    obtain ⟨t0, t1, t2, t3, t4, t5⟩ := blk3 BX.out
    have hm := BX.out.lt
    go_wp2_with fail
    go_at_call 120
    (with_reducible refine (numMul_any _ _ _ HA.out HBB.out).mono ?_)
    rintro x w1 ⟨rfl, e1⟩
    clear t0 t1 t2 t3 t4 t5 hm
    have HB1 := Lib.hid (HB.out.trans (e1.mono HB.out.size))
    have BX1 := Lib.hid (BX.out.below e1)
    unfold fitR
    generalize (fitI (a * b)) = oo at *
    generalize fitN oo = n9 at *
    generalize fitB oo = b9 at *
    go_wp2_with fail
    go_at_call 97
    (with_reducible refine (number_any _ _ _).mono ?_)
    rintro x w2 ⟨hx, e2⟩
    rw [HR.out] at hx
    subst hx
    have HP : Hid (RetV R (.returned (.agg #[.int .i64 R.K, .int .i64 R.N, .bool R.B]))) := rfl
    have HFN := Lib.hid (ret3 (.int .i64 R.K) (.int .i64 R.N) (.bool R.B) (HB1.out.trans (e2.mono HB1.out.size)) (Nat.le_refl _) (BX1.out.below e2))
    obtain ⟨t0, t1, t2, t3, t4, t5⟩ := blk3 (BX1.out.below e2)
    have hm := (BX1.out.below e2).lt
    generalize R.K = rk at *
    generalize R.N = rn at *
    generalize R.B = rb at *
    clear e2
    go_wp2_with fail
    generalize ((w2.setCell ⟨w.heap.size, 0, none⟩ (.int .i64 rk)).setCell ⟨w.heap.size, 1, none⟩ (.int .i64 rn)).setCell ⟨w.heap.size, 2, none⟩ (.bool rb) = W9 at *
    obtain ⟨r0, r1, r2, -, -, -⟩ := blk3 HFN.out.2
    refine bodyPost_ret (v := .agg #[.int .i64 rk, .int .i64 rn, .bool rb]) (by simp [results, Try.results101, go_sem, r0, r1, r2]) rfl ⟨HP.out, HFN.out.1⟩
  · have HR : Hid (nmV (fitN (if b = 0 then none else fitI (a.fdiv b))) (fitB (if b = 0 then none else fitI (a.fdiv b))) = R) := by rw [HT.out, nmV_fit]; rfl
    clear HT h
    go_enter Try.func101, Try.ntmps101
    go_upto_region 1 with (fail)
    generalize w.alloc (.cells #[.int .i64 0, .int .i64 0, .bool false] 73) = v at *
    obtain ⟨t0, t1, t2, t3, t4, t5⟩ := blk3 BX.out
    have hm := BX.out.lt
    go_wp2_with fail
    go_at_call 121
    (with_reducible refine (numMulDiv_any _ _ _ HA.out HBB.out).mono ?_)
    rintro x w1 ⟨rfl, e1⟩
    clear t0 t1 t2 t3 t4 t5 hm
    have HB1 := Lib.hid (HB.out.trans (e1.mono HB.out.size))
    have BX1 := Lib.hid (BX.out.below e1)
    unfold fitR
    generalize (if b = 0 then none else fitI (a.fdiv b)) = oo at *
    generalize fitN oo = n9 at *
    generalize fitB oo = b9 at *
    go_wp2_with fail
    go_at_call 97
    (with_reducible refine (number_any _ _ _).mono ?_)
    rintro x w2 ⟨hx, e2⟩
    rw [HR.out] at hx
    subst hx
    have HP : Hid (RetV R (.returned (.agg #[.int .i64 R.K, .int .i64 R.N, .bool R.B]))) := rfl
    have HFN := Lib.hid (ret3 (.int .i64 R.K) (.int .i64 R.N) (.bool R.B) (HB1.out.trans (e2.mono HB1.out.size)) (Nat.le_refl _) (BX1.out.below e2))
    obtain ⟨t0, t1, t2, t3, t4, t5⟩ := blk3 (BX1.out.below e2)
    have hm := (BX1.out.below e2).lt
    generalize R.K = rk at *
    generalize R.N = rn at *
    generalize R.B = rb at *
    clear e2
    go_wp2_with fail
    generalize ((w2.setCell ⟨w.heap.size, 0, none⟩ (.int .i64 rk)).setCell ⟨w.heap.size, 1, none⟩ (.int .i64 rn)).setCell ⟨w.heap.size, 2, none⟩ (.bool rb) = W9 at *
    obtain ⟨r0, r1, r2, -, -, -⟩ := blk3 HFN.out.2
    refine bodyPost_ret (v := .agg #[.int .i64 rk, .int .i64 rn, .bool rb]) (by simp [results, Try.results101, go_sem, r0, r1, r2]) rfl ⟨HP.out, HFN.out.1⟩
  · by_cases hxy : b < a
    · have HR : Hid (nmV b true = R) := by rw [HT.out]; simp only [show min a b = b by omega]; rfl
      clear HT h
      go_enter Try.func101, Try.ntmps101
      go_upto_region 1 with (fail)
      generalize w.alloc (.cells #[.int .i64 0, .int .i64 0, .bool false] 73) = v at *
      obtain ⟨t0, t1, t2, t3, t4, t5⟩ := blk3 BX.out
      have hm := BX.out.lt
      go_wp2_with fail
      have HB1 := Lib.hid HB.out
      have BX1 := Lib.hid BX.out
      clear t0 t1 t2 t3 t4 t5 hm
      go_at_call 97
      (with_reducible refine (number_any _ _ _).mono ?_)
      rintro x w2 ⟨hx, e2⟩
      rw [HR.out] at hx
      subst hx
      have HP : Hid (RetV R (.returned (.agg #[.int .i64 R.K, .int .i64 R.N, .bool R.B]))) := rfl
      have HFN := Lib.hid (ret3 (.int .i64 R.K) (.int .i64 R.N) (.bool R.B) (HB1.out.trans (e2.mono HB1.out.size)) (Nat.le_refl _) (BX1.out.below e2))
      obtain ⟨t0, t1, t2, t3, t4, t5⟩ := blk3 (BX1.out.below e2)
      have hm := (BX1.out.below e2).lt
      generalize R.K = rk at *
      generalize R.N = rn at *
      generalize R.B = rb at *
      clear e2
      go_wp2_with fail
      generalize ((w2.setCell ⟨w.heap.size, 0, none⟩ (.int .i64 rk)).setCell ⟨w.heap.size, 1, none⟩ (.int .i64 rn)).setCell ⟨w.heap.size, 2, none⟩ (.bool rb) = W9 at *
      obtain ⟨r0, r1, r2, -, -, -⟩ := blk3 HFN.out.2
      refine bodyPost_ret (v := .agg #[.int .i64 rk, .int .i64 rn, .bool rb]) (by simp [results, Try.results101, go_sem, r0, r1, r2]) rfl ⟨HP.out, HFN.out.1⟩
    · have HR : Hid (nmV a true = R) := by rw [HT.out]; simp only [show min a b = a by omega]; rfl
      clear HT h
      go_enter Try.func101, Try.ntmps101
      go_upto_region 1 with (fail)
      generalize w.alloc (.cells #[.int .i64 0, .int .i64 0, .bool false] 73) = v at *
      obtain ⟨t0, t1, t2, t3, t4, t5⟩ := blk3 BX.out
      have hm := BX.out.lt
      go_wp2_with fail
      have HB1 := Lib.hid HB.out
      have BX1 := Lib.hid BX.out
      clear t0 t1 t2 t3 t4 t5 hm
      go_at_call 97
      (with_reducible refine (number_any _ _ _).mono ?_)
      rintro x w2 ⟨hx, e2⟩
      rw [HR.out] at hx
      subst hx
      have HP : Hid (RetV R (.returned (.agg #[.int .i64 R.K, .int .i64 R.N, .bool R.B]))) := rfl
      have HFN := Lib.hid (ret3 (.int .i64 R.K) (.int .i64 R.N) (.bool R.B) (HB1.out.trans (e2.mono HB1.out.size)) (Nat.le_refl _) (BX1.out.below e2))
      obtain ⟨t0, t1, t2, t3, t4, t5⟩ := blk3 (BX1.out.below e2)
      have hm := (BX1.out.below e2).lt
      generalize R.K = rk at *
      generalize R.N = rn at *
      generalize R.B = rb at *
      clear e2
      go_wp2_with fail
      generalize ((w2.setCell ⟨w.heap.size, 0, none⟩ (.int .i64 rk)).setCell ⟨w.heap.size, 1, none⟩ (.int .i64 rn)).setCell ⟨w.heap.size, 2, none⟩ (.bool rb) = W9 at *
      obtain ⟨r0, r1, r2, -, -, -⟩ := blk3 HFN.out.2
      refine bodyPost_ret (v := .agg #[.int .i64 rk, .int .i64 rn, .bool rb]) (by simp [results, Try.results101, go_sem, r0, r1, r2]) rfl ⟨HP.out, HFN.out.1⟩
  · by_cases hxy : a < b
    · have HR : Hid (nmV b true = R) := by rw [HT.out]; simp only [show max a b = b by omega]; rfl
      clear HT h
      go_enter Try.func101, Try.ntmps101
      go_upto_region 1 with (fail)
      generalize w.alloc (.cells #[.int .i64 0, .int .i64 0, .bool false] 73) = v at *
      obtain ⟨t0, t1, t2, t3, t4, t5⟩ := blk3 BX.out
      have hm := BX.out.lt
      go_wp2_with fail
      have HB1 := Lib.hid HB.out
      have BX1 := Lib.hid BX.out
      clear t0 t1 t2 t3 t4 t5 hm
      go_at_call 97
      (with_reducible refine (number_any _ _ _).mono ?_)
      rintro x w2 ⟨hx, e2⟩
      rw [HR.out] at hx
      subst hx
      have HP : Hid (RetV R (.returned (.agg #[.int .i64 R.K, .int .i64 R.N, .bool R.B]))) := rfl
      have HFN := Lib.hid (ret3 (.int .i64 R.K) (.int .i64 R.N) (.bool R.B) (HB1.out.trans (e2.mono HB1.out.size)) (Nat.le_refl _) (BX1.out.below e2))
      obtain ⟨t0, t1, t2, t3, t4, t5⟩ := blk3 (BX1.out.below e2)
      have hm := (BX1.out.below e2).lt
      generalize R.K = rk at *
      generalize R.N = rn at *
      generalize R.B = rb at *
      clear e2
      go_wp2_with fail
      generalize ((w2.setCell ⟨w.heap.size, 0, none⟩ (.int .i64 rk)).setCell ⟨w.heap.size, 1, none⟩ (.int .i64 rn)).setCell ⟨w.heap.size, 2, none⟩ (.bool rb) = W9 at *
      obtain ⟨r0, r1, r2, -, -, -⟩ := blk3 HFN.out.2
      refine bodyPost_ret (v := .agg #[.int .i64 rk, .int .i64 rn, .bool rb]) (by simp [results, Try.results101, go_sem, r0, r1, r2]) rfl ⟨HP.out, HFN.out.1⟩
    · have HR : Hid (nmV a true = R) := by rw [HT.out]; simp only [show max a b = a by omega]; rfl
      clear HT h
      go_enter Try.func101, Try.ntmps101
      go_upto_region 1 with (fail)
      generalize w.alloc (.cells #[.int .i64 0, .int .i64 0, .bool false] 73) = v at *
      obtain ⟨t0, t1, t2, t3, t4, t5⟩ := blk3 BX.out
      have hm := BX.out.lt
      go_wp2_with fail
      have HB1 := Lib.hid HB.out
      have BX1 := Lib.hid BX.out
      clear t0 t1 t2 t3 t4 t5 hm
      go_at_call 97
      (with_reducible refine (number_any _ _ _).mono ?_)
      rintro x w2 ⟨hx, e2⟩
      rw [HR.out] at hx
      subst hx
      have HP : Hid (RetV R (.returned (.agg #[.int .i64 R.K, .int .i64 R.N, .bool R.B]))) := rfl
      have HFN := Lib.hid (ret3 (.int .i64 R.K) (.int .i64 R.N) (.bool R.B) (HB1.out.trans (e2.mono HB1.out.size)) (Nat.le_refl _) (BX1.out.below e2))
      obtain ⟨t0, t1, t2, t3, t4, t5⟩ := blk3 (BX1.out.below e2)
      have hm := (BX1.out.below e2).lt
      generalize R.K = rk at *
      generalize R.N = rn at *
      generalize R.B = rb at *
      clear e2
      go_wp2_with fail
      generalize ((w2.setCell ⟨w.heap.size, 0, none⟩ (.int .i64 rk)).setCell ⟨w.heap.size, 1, none⟩ (.int .i64 rn)).setCell ⟨w.heap.size, 2, none⟩ (.bool rb) = W9 at *
      obtain ⟨r0, r1, r2, -, -, -⟩ := blk3 HFN.out.2
      refine bodyPost_ret (v := .agg #[.int .i64 rk, .int .i64 rn, .bool rb]) (by simp [results, Try.results101, go_sem, r0, r1, r2]) rfl ⟨HP.out, HFN.out.1⟩
  · have HR : Hid (Vl.tru (decide (a < b)) = R) := by rw [HT.out]; rfl
    clear HT h
    go_enter Try.func101, Try.ntmps101
    go_upto_region 1 with (fail)
    generalize w.alloc (.cells #[.int .i64 0, .int .i64 0, .bool false] 73) = v at *
    obtain ⟨t0, t1, t2, t3, t4, t5⟩ := blk3 BX.out
    have hm := BX.out.lt
    go_wp2_with fail
    have HB1 := Lib.hid HB.out
    have BX1 := Lib.hid BX.out
    clear t0 t1 t2 t3 t4 t5 hm
    go_at_call 99
    (with_reducible refine (truth_any _ _).mono ?_)
    rintro x w2 ⟨hx, e2⟩
    rw [HR.out] at hx
    subst hx
    have HP : Hid (RetV R (.returned (.agg #[.int .i64 R.K, .int .i64 R.N, .bool R.B]))) := rfl
    have HFN := Lib.hid (ret3 (.int .i64 R.K) (.int .i64 R.N) (.bool R.B) (HB1.out.trans (e2.mono HB1.out.size)) (Nat.le_refl _) (BX1.out.below e2))
    obtain ⟨t0, t1, t2, t3, t4, t5⟩ := blk3 (BX1.out.below e2)
    have hm := (BX1.out.below e2).lt
    generalize R.K = rk at *
    generalize R.N = rn at *
    generalize R.B = rb at *
    clear e2
    go_wp2_with fail
    generalize ((w2.setCell ⟨w.heap.size, 0, none⟩ (.int .i64 rk)).setCell ⟨w.heap.size, 1, none⟩ (.int .i64 rn)).setCell ⟨w.heap.size, 2, none⟩ (.bool rb) = W9 at *
    obtain ⟨r0, r1, r2, -, -, -⟩ := blk3 HFN.out.2
    refine bodyPost_ret (v := .agg #[.int .i64 rk, .int .i64 rn, .bool rb]) (by simp [results, Try.results101, go_sem, r0, r1, r2]) rfl ⟨HP.out, HFN.out.1⟩
  · have HR : Hid (Vl.tru (decide (a ≤ b)) = R) := by rw [HT.out]; rfl
    clear HT h
    go_enter Try.func101, Try.ntmps101
    go_upto_region 1 with (fail)
    generalize w.alloc (.cells #[.int .i64 0, .int .i64 0, .bool false] 73) = v at *
    obtain ⟨t0, t1, t2, t3, t4, t5⟩ := blk3 BX.out
    have hm := BX.out.lt
    go_wp2_with fail
    have HB1 := Lib.hid HB.out
    have BX1 := Lib.hid BX.out
    clear t0 t1 t2 t3 t4 t5 hm
    go_at_call 99
    (with_reducible refine (truth_any _ _).mono ?_)
    rintro x w2 ⟨hx, e2⟩
    rw [HR.out] at hx
    subst hx
    have HP : Hid (RetV R (.returned (.agg #[.int .i64 R.K, .int .i64 R.N, .bool R.B]))) := rfl
    have HFN := Lib.hid (ret3 (.int .i64 R.K) (.int .i64 R.N) (.bool R.B) (HB1.out.trans (e2.mono HB1.out.size)) (Nat.le_refl _) (BX1.out.below e2))
    obtain ⟨t0, t1, t2, t3, t4, t5⟩ := blk3 (BX1.out.below e2)
    have hm := (BX1.out.below e2).lt
    generalize R.K = rk at *
    generalize R.N = rn at *
    generalize R.B = rb at *
    clear e2
    go_wp2_with fail
    generalize ((w2.setCell ⟨w.heap.size, 0, none⟩ (.int .i64 rk)).setCell ⟨w.heap.size, 1, none⟩ (.int .i64 rn)).setCell ⟨w.heap.size, 2, none⟩ (.bool rb) = W9 at *
    obtain ⟨r0, r1, r2, -, -, -⟩ := blk3 HFN.out.2
    refine bodyPost_ret (v := .agg #[.int .i64 rk, .int .i64 rn, .bool rb]) (by simp [results, Try.results101, go_sem, r0, r1, r2]) rfl ⟨HP.out, HFN.out.1⟩
  · have HR : Hid (Vl.tru (a == b) = R) := by rw [HT.out]; simp only [if_neg (show ¬ ((5 : Int) ≤ 13 ∧ (13 : Int) ≤ 10) by decide)]; congr 1
    clear HT h
    go_enter Try.func101, Try.ntmps101
    go_upto_region 1 with (fail)
    generalize w.alloc (.cells #[.int .i64 0, .int .i64 0, .bool false] 73) = v at *
    obtain ⟨t0, t1, t2, t3, t4, t5⟩ := blk3 BX.out
    have hm := BX.out.lt
    go_wp2_with fail
    have HB1 := Lib.hid HB.out
    have BX1 := Lib.hid BX.out
    clear t0 t1 t2 t3 t4 t5 hm
    go_at_call 99
    (with_reducible refine (truth_any _ _).mono ?_)
    rintro x w2 ⟨hx, e2⟩
    rw [HR.out] at hx
    subst hx
    have HP : Hid (RetV R (.returned (.agg #[.int .i64 R.K, .int .i64 R.N, .bool R.B]))) := rfl
    have HFN := Lib.hid (ret3 (.int .i64 R.K) (.int .i64 R.N) (.bool R.B) (HB1.out.trans (e2.mono HB1.out.size)) (Nat.le_refl _) (BX1.out.below e2))
    obtain ⟨t0, t1, t2, t3, t4, t5⟩ := blk3 (BX1.out.below e2)
    have hm := (BX1.out.below e2).lt
    generalize R.K = rk at *
    generalize R.N = rn at *
    generalize R.B = rb at *
    clear e2
    go_wp2_with fail
    generalize ((w2.setCell ⟨w.heap.size, 0, none⟩ (.int .i64 rk)).setCell ⟨w.heap.size, 1, none⟩ (.int .i64 rn)).setCell ⟨w.heap.size, 2, none⟩ (.bool rb) = W9 at *
    obtain ⟨r0, r1, r2, -, -, -⟩ := blk3 HFN.out.2
    refine bodyPost_ret (v := .agg #[.int .i64 rk, .int .i64 rn, .bool rb]) (by simp [results, Try.results101, go_sem, r0, r1, r2]) rfl ⟨HP.out, HFN.out.1⟩
  · have HR : Hid (Vl.tru (a != b) = R) := by rw [HT.out]; simp only [if_neg (show ¬ ((5 : Int) ≤ 14 ∧ (14 : Int) ≤ 10) by decide)]; congr 1; simp [cmpV, bne]; rfl
    clear HT h
    go_enter Try.func101, Try.ntmps101
    go_upto_region 1 with (fail)
    generalize w.alloc (.cells #[.int .i64 0, .int .i64 0, .bool false] 73) = v at *
    obtain ⟨t0, t1, t2, t3, t4, t5⟩ := blk3 BX.out
    have hm := BX.out.lt
    go_wp2_with fail
    have HB1 := Lib.hid HB.out
    have BX1 := Lib.hid BX.out
    clear t0 t1 t2 t3 t4 t5 hm
    go_at_call 99
    (with_reducible refine (truth_any _ _).mono ?_)
    rintro x w2 ⟨hx, e2⟩
    rw [HR.out] at hx
    subst hx
    have HP : Hid (RetV R (.returned (.agg #[.int .i64 R.K, .int .i64 R.N, .bool R.B]))) := rfl
    have HFN := Lib.hid (ret3 (.int .i64 R.K) (.int .i64 R.N) (.bool R.B) (HB1.out.trans (e2.mono HB1.out.size)) (Nat.le_refl _) (BX1.out.below e2))
    obtain ⟨t0, t1, t2, t3, t4, t5⟩ := blk3 (BX1.out.below e2)
    have hm := (BX1.out.below e2).lt
    generalize R.K = rk at *
    generalize R.N = rn at *
    generalize R.B = rb at *
    clear e2
    go_wp2_with fail
    generalize ((w2.setCell ⟨w.heap.size, 0, none⟩ (.int .i64 rk)).setCell ⟨w.heap.size, 1, none⟩ (.int .i64 rn)).setCell ⟨w.heap.size, 2, none⟩ (.bool rb) = W9 at *
    obtain ⟨r0, r1, r2, -, -, -⟩ := blk3 HFN.out.2
    refine bodyPost_ret (v := .agg #[.int .i64 rk, .int .i64 rn, .bool rb]) (by simp [results, Try.results101, go_sem, r0, r1, r2]) rfl ⟨HP.out, HFN.out.1⟩
  · have HR : Hid (Vl.tru (decide (b ≤ a)) = R) := by rw [HT.out]; rfl
    clear HT h
    go_enter Try.func101, Try.ntmps101
    go_upto_region 1 with (fail)
    generalize w.alloc (.cells #[.int .i64 0, .int .i64 0, .bool false] 73) = v at *
    obtain ⟨t0, t1, t2, t3, t4, t5⟩ := blk3 BX.out
    have hm := BX.out.lt
    go_wp2_with fail
    have HB1 := Lib.hid HB.out
    have BX1 := Lib.hid BX.out
    clear t0 t1 t2 t3 t4 t5 hm
    go_at_call 99
    (with_reducible refine (truth_any _ _).mono ?_)
    rintro x w2 ⟨hx, e2⟩
    rw [HR.out] at hx
    subst hx
    have HP : Hid (RetV R (.returned (.agg #[.int .i64 R.K, .int .i64 R.N, .bool R.B]))) := rfl
    have HFN := Lib.hid (ret3 (.int .i64 R.K) (.int .i64 R.N) (.bool R.B) (HB1.out.trans (e2.mono HB1.out.size)) (Nat.le_refl _) (BX1.out.below e2))
    obtain ⟨t0, t1, t2, t3, t4, t5⟩ := blk3 (BX1.out.below e2)
    have hm := (BX1.out.below e2).lt
    generalize R.K = rk at *
    generalize R.N = rn at *
    generalize R.B = rb at *
    clear e2
    go_wp2_with fail
    generalize ((w2.setCell ⟨w.heap.size, 0, none⟩ (.int .i64 rk)).setCell ⟨w.heap.size, 1, none⟩ (.int .i64 rn)).setCell ⟨w.heap.size, 2, none⟩ (.bool rb) = W9 at *
    obtain ⟨r0, r1, r2, -, -, -⟩ := blk3 HFN.out.2
    refine bodyPost_ret (v := .agg #[.int .i64 rk, .int .i64 rn, .bool rb]) (by simp [results, Try.results101, go_sem, r0, r1, r2]) rfl ⟨HP.out, HFN.out.1⟩
  · have HR : Hid (Vl.tru (decide (b < a)) = R) := by rw [HT.out]; rfl
    clear HT h
    go_enter Try.func101, Try.ntmps101
    go_upto_region 1 with (fail)
    generalize w.alloc (.cells #[.int .i64 0, .int .i64 0, .bool false] 73) = v at *
    obtain ⟨t0, t1, t2, t3, t4, t5⟩ := blk3 BX.out
    have hm := BX.out.lt
    go_wp2_with fail
    have HB1 := Lib.hid HB.out
    have BX1 := Lib.hid BX.out
    clear t0 t1 t2 t3 t4 t5 hm
    go_at_call 99
    (with_reducible refine (truth_any _ _).mono ?_)
    rintro x w2 ⟨hx, e2⟩
    rw [HR.out] at hx
    subst hx
    have HP : Hid (RetV R (.returned (.agg #[.int .i64 R.K, .int .i64 R.N, .bool R.B]))) := rfl
    have HFN := Lib.hid (ret3 (.int .i64 R.K) (.int .i64 R.N) (.bool R.B) (HB1.out.trans (e2.mono HB1.out.size)) (Nat.le_refl _) (BX1.out.below e2))
    obtain ⟨t0, t1, t2, t3, t4, t5⟩ := blk3 (BX1.out.below e2)
    have hm := (BX1.out.below e2).lt
    generalize R.K = rk at *
    generalize R.N = rn at *
    generalize R.B = rb at *
    clear e2
    go_wp2_with fail
    generalize ((w2.setCell ⟨w.heap.size, 0, none⟩ (.int .i64 rk)).setCell ⟨w.heap.size, 1, none⟩ (.int .i64 rn)).setCell ⟨w.heap.size, 2, none⟩ (.bool rb) = W9 at *
    obtain ⟨r0, r1, r2, -, -, -⟩ := blk3 HFN.out.2
    refine bodyPost_ret (v := .agg #[.int .i64 rk, .int .i64 rn, .bool rb]) (by simp [results, Try.results101, go_sem, r0, r1, r2]) rfl ⟨HP.out, HFN.out.1⟩
end Go.Proofs.Ytppnmeobnilojaa

/- The contract of obs.Seen. -/
namespace Go.Proofs.Ytppnmeobnilojaa
set_option linter.unusedVariables false
set_option linter.unusedSimpArgs false
open Go.RowKit
set_option maxRecDepth 100000 in
set_option maxHeartbeats 2000000 in
theorem seen_any (day : Int) (fx : List Fx) (nm : ByteArray) (a : Option Addr) (len cap : Nat) (w : World) (hS : SlR fxK w [] fx a len cap) :
    Calls Try.prog 35 #[.agg #[.int .i64 day, .slice a len cap], .string nm] w fun x w' => x = seenRt (seenV day fx nm) ∧ Below w.heap.size w w' := by
  obtain ⟨f1, f2, f3⟩ := hS.facts
  have HL := Lib.hid f1
  have hal := (Below.refl w.heap.size w).alloc (Nat.le_refl _) (.cells #[.int .i64 day, .slice a len cap] 63)
  have HS := Lib.hid (hS.kept (Kept.of_below hal []))
  have HB0 := Lib.hid hal
  have BX := Lib.hid (Mem.Blk.new w 63 #[.int .i64 day, .slice a len cap])
  obtain ⟨R, hR⟩ : ∃ R, R = seenRt (seenV day fx nm) := ⟨_, rfl⟩
  rw [← hR]
  have HR := Lib.hid hR
  clear hR hS hal f1
  go_enter Try.func35, Try.ntmps35
  go_upto_region 1 with (fail)
  generalize w.alloc (.cells #[.int .i64 day, .slice a len cap] 63) = v at *
  obtain ⟨c0, c1, -, -⟩ := BX.out.two
  go_wp2_with fail
  clear c0 c1
  go_loopw [6, 12] (fun b i wr => ∃ (k : Nat) (s : Int), i = .int .i64 (k : Nat) ∧ b = .int .i64 s ∧ k ≤ len ∧ Hid (Best day nm fx k s) ∧ Hid (Below v.heap.size v wr)) (fun _ i _ => len - (intOf i).toNat)
  case atStart => exact ⟨0, -1, rfl, rfl, Nat.zero_le _, Best.start _ _ _, Below.refl _ _⟩
  case round =>
    obtain ⟨k, s, rfl, rfl, hk, HN, HB⟩ := hrel
    have hlo := HN.out.lo
    have hhi := HN.out.hi
    have BW := Lib.hid (BX.out.below HB.out)
    obtain ⟨c0, c1, -, -⟩ := BW.out.two
    have HSW := Lib.hid (HS.out.kept (Kept.of_below HB.out []))
    by_cases hlt : k < len
    · have hk' : (k : Int) < (len : Int) := by omega
      obtain ⟨b, o, f, rfl, hbl, -, hf, -, k1, k2, u0, u1, u2⟩ := fx_at HSW.out k hlt
      have HF := Lib.hid hf
      have hal := (Below.refl wr.heap.size wr).alloc (Nat.le_refl _) (.cells #[.string f.name, .int .i64 f.day, .int .i64 f.val] 83)
      have HB2 := Lib.hid (HB.out.trans (hal.mono HB.out.size))
      have BF := Lib.hid (Mem.Blk.new wr 83 #[.string f.name, .int .i64 f.day, .int .i64 f.val])
      have HS2 := Lib.hid (HSW.out.kept (Kept.of_below hal []))
      have BW2 := Lib.hid (BW.out.below hal)
      clear hf hal HSW HB HS BX BW
      go_upto_region 5 with (fail)
      generalize wr.alloc (.cells #[.string f.name, .int .i64 f.day, .int .i64 f.val] 83) = v2 at *
      generalize wr.heap.size = h2 at *
      clear c0 c1 u0 u1 u2
      obtain ⟨c0, c1, -, -⟩ := BW2.out.two
      have d0 : v2.cell? ⟨h2, 0, none⟩ = _ := BF.out.cell 0
      have d1 : v2.cell? ⟨h2, 1, none⟩ = _ := BF.out.cell 1
      simp only [List.getElem?_toArray, List.getElem?_cons_zero, List.getElem?_cons_succ] at d0 d1
      by_cases hn : f.name = nm
      case neg =>
        have t1 : (f.name.toList == nm.toList) = false := tl_ne hn
        have HX := Lib.hid (HN.out.skip HF.out (fun hh => hn hh.1))
        clear hn HN
        go_quiet (fail)
        go_wp2_with fail
        go_roundw
        case rel => exact ⟨k + 1, s, by go_num, rfl, by omega, HX.out, below_drewN HB2.out _⟩
        case measure => simp [intOf]; omega
      case pos =>
        by_cases hd : f.day ≤ day
        case neg =>
          have hdd : decide (f.day ≤ day) = false := decide_eq_false hd
          have HX := Lib.hid (HN.out.skip HF.out (fun hh => hd hh.2.1))
          clear HN
          subst hn
          go_quiet (fail)
          go_wp2_with fail
          go_roundw
          case rel => exact ⟨k + 1, s, by go_num, rfl, by omega, HX.out, below_drewN HB2.out _⟩
          case measure => simp [intOf]; omega
        case pos =>
          have hdd : decide (f.day ≤ day) = true := decide_eq_true hd
          by_cases hs : s < 0
          case pos =>
            have hss : decide (s < 0) = true := decide_eq_true hs
            have HX := Lib.hid (HN.out.take HF.out ⟨hn, hd, stF_neg hs f⟩)
            clear HN
            subst hn
            go_quiet (fail)
            go_wp2_with fail
            go_roundw
            case rel => exact ⟨k + 1, _, by go_num, rfl, by omega, HX.out, below_drewN HB2.out _⟩
            case measure => simp [intOf]; omega
          case neg =>
            obtain ⟨j, rfl⟩ : ∃ j : Nat, s = (j : Nat) := ⟨s.toNat, by omega⟩
            have hss : decide ((j : Int) < 0) = false := decide_eq_false hs
            obtain ⟨b', o', g, e, hb', -, hg, -, g1, g2, w0, w1, w2⟩ := fx_at HS2.out j (by omega)
            injection e with e
            injection e with e1 e2
            subst e1; subst e2
            clear w0 w2
            have HG := Lib.hid (stF_nat hg)
            clear hg
            by_cases hgd : g.day < f.day
            case pos =>
              have hgg : decide (g.day < f.day) = true := decide_eq_true hgd
              have HX := Lib.hid (HN.out.take HF.out ⟨hn, hd, fun p hp => by rw [HG.out] at hp; injection hp with hp; subst hp; exact hgd⟩)
              clear HN
              subst hn
              go_quiet (fail)
              go_wp2_with fail
              go_roundw
              case rel => exact ⟨k + 1, _, by go_num, rfl, by omega, HX.out, below_drewN HB2.out _⟩
              case measure => simp [intOf]; omega
            case neg =>
              have hgg : decide (g.day < f.day) = false := decide_eq_false hgd
              have HX := Lib.hid (HN.out.skip HF.out (fun hh => hgd (hh.2.2 _ HG.out)))
              clear HN
              subst hn
              go_quiet (fail)
              go_wp2_with fail
              go_roundw
              case rel => exact ⟨k + 1, (j : Nat), by go_num, rfl, by omega, HX.out, below_drewN HB2.out _⟩
              case measure => simp [intOf]; omega
    · have hk' : ¬ (k : Int) < (len : Int) := by omega
      obtain rfl : k = fx.length := by have := HL.out; omega
      have HB2 := Lib.hid (HB0.out.trans (HB.out.mono HB0.out.size))
      by_cases hs : s < 0
      · obtain rfl : R = .returned (.tuple #[.int .i64 0, .bool false]) := by rw [HR.out, HN.out.none hs]; rfl
        clear HR HN
        go_wp2_with fail
        go_ret2
        exact ⟨rfl, HB2.out⟩
      · obtain ⟨j, rfl⟩ : ∃ j : Nat, s = (j : Nat) := ⟨s.toNat, by omega⟩
        obtain ⟨b', o', g, rfl, hb', -, hg, -, g1, g2, w0, w1, w2⟩ := fx_at HSW.out j (by have := HL.out; omega)
        obtain rfl : R = .returned (.tuple #[.int .i64 g.val, .bool true]) := by rw [HR.out, HN.out.some hg]; rfl
        clear HR HN hg w0 w1
        go_wp2_with fail
        go_ret2
        exact ⟨rfl, HB2.out⟩
end Go.Proofs.Ytppnmeobnilojaa

/- Where an evaluation stands: three blocks of its own. -/
namespace Go.Proofs.Ytppnmeobnilojaa
set_option linter.unusedVariables false
set_option linter.unusedSimpArgs false
open Go.RowKit
structure EvSt (w W : World) (day : Int) (a : Option Addr) (len cap : Nat) (op n : Int) (nm : ByteArray) (a' : Option Addr) (len' cap' : Nat) : Prop where
  below : Below w.heap.size w W
  env : Mem.Blk W w.heap.size 63 #[.int .i64 day, .slice a len cap]
  ex : Mem.Blk W (w.heap.size + 1) 46 #[.int .i64 op, .int .i64 n, .string nm, .slice a' len' cap']
  res : Mem.Blk W (w.heap.size + 1 + 1) 73 #[.int .i64 0, .int .i64 0, .bool false]
section
variable {w W W' : World} {day : Int} {a : Option Addr} {len cap : Nat} {op n : Int} {nm : ByteArray} {a' : Option Addr} {len' cap' : Nat}
theorem EvSt.up (h : EvSt w W day a len cap op n nm a' len' cap') (hb : Below W.heap.size W W') : EvSt w W' day a len cap op n nm a' len' cap' :=
  ⟨h.below.trans (hb.mono h.below.size), h.env.below hb, h.ex.below hb, h.res.below hb⟩
theorem EvSt.lt (h : EvSt w W day a len cap op n nm a' len' cap') : w.heap.size + 1 + 1 < W.heap.size := h.res.lt
theorem EvSt.far3 (h : EvSt w W day a len cap op n nm a' len' cap') {g : Nat} (hg : w.heap.size + 1 + 1 < g) (c0 c1 c2 : Value) : EvSt w (((W.setCell ⟨g, 0, none⟩ c0).setCell ⟨g, 1, none⟩ c1).setCell ⟨g, 2, none⟩ c2) day a len cap op n nm a' len' cap' :=
  have h0 : w.heap.size ≠ g := by omega
  have h1 : w.heap.size + 1 ≠ g := by omega
  have h2 : w.heap.size + 1 + 1 ≠ g := by omega
  have hb : w.heap.size ≤ g := by omega
  ⟨((h.below.setCell hb _).setCell hb _).setCell hb _, ((h.env.far h0 _).far h0 _).far h0 _, ((h.ex.far h1 _).far h1 _).far h1 _, ((h.res.far h2 _).far h2 _).far h2 _⟩
end
theorem EvSt.start (w : World) (day : Int) (a : Option Addr) (len cap : Nat) (op n : Int) (nm : ByteArray) (a' : Option Addr) (len' cap' : Nat) :
    EvSt w (((w.alloc (.cells #[.int .i64 day, .slice a len cap] 63)).alloc (.cells #[.int .i64 op, .int .i64 n, .string nm, .slice a' len' cap'] 46)).alloc (.cells #[.int .i64 0, .int .i64 0, .bool false] 73)) day a len cap op n nm a' len' cap' := by
  have h1 := Mem.Blk.new w 63 #[.int .i64 day, .slice a len cap]
  have h2 := Mem.Blk.new (w.alloc (.cells #[.int .i64 day, .slice a len cap] 63)) 46 #[.int .i64 op, .int .i64 n, .string nm, .slice a' len' cap']
  have h3 := Mem.Blk.new ((w.alloc (.cells #[.int .i64 day, .slice a len cap] 63)).alloc (.cells #[.int .i64 op, .int .i64 n, .string nm, .slice a' len' cap'] 46)) 73 #[.int .i64 0, .int .i64 0, .bool false]
  have e1 : (w.alloc (.cells #[.int .i64 day, .slice a len cap] 63)).heap.size = w.heap.size + 1 := by simp
  have e2 : ((w.alloc (.cells #[.int .i64 day, .slice a len cap] 63)).alloc (.cells #[.int .i64 op, .int .i64 n, .string nm, .slice a' len' cap'] 46)).heap.size = w.heap.size + 1 + 1 := by simp
  rw [e1] at h2
  rw [e2] at h3
  exact ⟨(((Below.refl _ _).alloc (Nat.le_refl _) _).alloc (by rw [e1]; omega) _).alloc (by rw [e2]; omega) _, (h1.alloc _).alloc _, h2.alloc _, h3⟩
/-- A value of a kid, in a block behind the three. -/
structure EvV (w W : World) (g : Nat) (v : Vl) : Prop where
  hi : w.heap.size + 1 + 1 < g
  blk : Mem.Blk W g 73 #[.int .i64 v.K, .int .i64 v.N, .bool v.B]
theorem EvV.up {w W W' : World} {g : Nat} {v : Vl} (h : EvV w W g v) (hb : Below W.heap.size W W') : EvV w W' g v := ⟨h.hi, h.blk.below hb⟩
theorem EvV.far3 {w W : World} {g g' : Nat} {v : Vl} (h : EvV w W g v) (hg : g ≠ g') (c0 c1 c2 : Value) : EvV w (((W.setCell ⟨g', 0, none⟩ c0).setCell ⟨g', 1, none⟩ c1).setCell ⟨g', 2, none⟩ c2) g v := ⟨h.hi, ((h.blk.far hg _).far hg _).far hg _⟩
/-- A contract for a value. -/
def EvC (w : World) (day : Int) (a : Option Addr) (len cap : Nat) (c0 c1 c2 c3 : Value) (v : Vl) : Prop :=
  ∀ W, Below w.heap.size w W → Calls Try.prog 68 #[.agg #[.int .i64 day, .slice a len cap], .agg #[c0, c1, c2, c3]] W fun x W' => RetV v x ∧ Below W.heap.size W W'
theorem EvC.run {w : World} {day : Int} {a : Option Addr} {len cap : Nat} {c0 c1 c2 c3 : Value} {v : Vl} (h : EvC w day a len cap c0 c1 c2 c3 v) (W : World) (hW : Below w.heap.size w W) :
    Calls Try.prog 68 #[.agg #[.int .i64 day, .slice a len cap], .agg #[c0, c1, c2, c3]] W fun x W' => RetV v x ∧ Below W.heap.size W W' := h W hW
end Go.Proofs.Ytppnmeobnilojaa
