/- slices.IndexFunc, ContainsFunc over expressions and over terms, whatever the function is that is handed in. -/
import Derived.Test.YtjpkljkmignnjaaProg
import Derived.Test.YtjpkljkmignnjaaChecked
import Derived.Test.YtjpkljkmignnjaaTree
import Derived.Test.YtjpkljkmignnjaaMem
import Derived.LoopTactic
import Derived.WalkLawsBesides
import Derived.BigQuiet
namespace Go.Proofs.Ytjpkljkmignnjaa
set_option linter.unusedVariables false
set_option linter.unusedSimpArgs false
open Go.RowKit
theorem enters_of {P : Program} {g : FuncId} {f : Func} (h : P.funcs[g]? = some f) (hn : (f.name == "runtime.NumGoroutine") = false) (hb : f.body.isNone = false) : ∀ args w, (callFunc g args).run P w = .ok (.enter g args) w := by
  intro args w
  unfold callFunc
  rw [Sem.run_bind]
  show Result.andThen (Result.ok P w) _ = _
  rw [Result.andThen_ok]
  rw [h]
  simp only [hn, hb]
  rfl
/-- Where the first one is of which p holds; -1. -/
def idxF {α : Type} (p : α → Bool) (l : List α) : Int := match l.findIdx? p with | some i => (i : Nat) | none => -1
theorem idxF_hit {α : Type} (p : α → Bool) (l : List α) (k : Nat) (x : α) (h : l[k]? = some x) (hp : p x = true) (hn : ∀ j y, j < k → l[j]? = some y → p y = false) : idxF p l = (k : Nat) := by
  unfold idxF
  have : l.findIdx? p = some k := by
    rw [List.findIdx?_eq_some_iff_getElem]
    have hk : k < l.length := (List.getElem?_eq_some_iff.1 h).1
    refine ⟨hk, ?_, ?_⟩
    · rw [List.getElem?_eq_getElem hk] at h; injection h with h; rw [h]; exact hp
    · intro j hj; have := hn j _ hj (List.getElem?_eq_getElem (by omega)); simp [this]
  rw [this]
theorem idxF_miss {α : Type} (p : α → Bool) (l : List α) (hn : ∀ (j : Nat) y, l[j]? = some y → p y = false) : idxF p l = -1 := by
  unfold idxF
  have : l.findIdx? p = none := by
    rw [List.findIdx?_eq_none_iff]
    intro x hx
    obtain ⟨j, hj, rfl⟩ := List.getElem_of_mem hx
    exact hn j _ (List.getElem?_eq_getElem hj)
  rw [this]
theorem idxF_any {α : Type} (p : α → Bool) (l : List α) : decide (0 ≤ idxF p l) = l.any p := by
  unfold idxF
  cases h : l.findIdx? p with
  | none =>
    rw [List.findIdx?_eq_none_iff] at h
    have : l.any p = false := by rw [List.any_eq_false]; intro x hx; simp [h x hx]
    rw [this]; rfl
  | some i =>
    rw [List.findIdx?_eq_some_iff_getElem] at h
    obtain ⟨hi, hp, _⟩ := h
    have : l.any p = true := by rw [List.any_eq_true]; exact ⟨_, List.getElem_mem hi, hp⟩
    rw [this]; simp
set_option maxHeartbeats 1000000 in
theorem indexE_any (g : FuncId) (p : Ex → Bool) (l : List Ex) (a : Option Addr) (len cap : Nat) (w : World) (eg : ∀ args w, (callFunc g args).run Try.prog w = .ok (.enter g args) w) (hS : SlE w [] l a len cap)
    (hP : ∀ (k : Nat) (e : Ex) (cs : List Value) (W : World), l[k]? = some e → RepE W [] e cs → Calls Try.prog g #[.agg cs.toArray] W fun r W' => r = .returned (.bool (p e)) ∧ Below W.heap.size W W') :
    Calls Try.prog 60 #[.slice a len cap, .func (.func g) #[] #[]] w fun e w' => e = .returned (.int .i64 (idxF p l)) ∧ Below w.heap.size w w' := by
  have HF : Hid (∀ x, x = idxF p l → Ending.returned (.int .i64 x) = .returned (.int .i64 (idxF p l))) := fun x h => by rw [h]
  have HH := Lib.hid (fun k x => idxF_hit p l k x)
  have HM := Lib.hid (idxF_miss p l)
  have HS := Lib.hid hS
  have HP := Lib.hid hP
  obtain ⟨f1, f2, f3⟩ := hS.facts
  have HL := Lib.hid f1
  clear hS hP f1
  go_enter Try.func60, Try.ntmps60
  go_wp2_with fail
  go_loopw [8] (fun i wr => ∃ k : Nat, i = .int .i64 (k : Nat) ∧ k ≤ len ∧ Hid (Below w.heap.size w wr) ∧ Hid (∀ j y, j < k → l[j]? = some y → p y = false)) (fun i _ => len - (intOf i).toNat)
  case atStart => exact ⟨0, rfl, Nat.zero_le _, Below.refl _ _, fun j y hj => absurd hj (Nat.not_lt_zero _)⟩
  case round =>
    obtain ⟨k, rfl, hk, HW, HN⟩ := hrel
    by_cases hlt : k < len
    · obtain ⟨b, o, op', n', nm', args', a', len', cap', rfl, hb, hbx, hle, j1, j2, j3, hS', g0, g1, g2, g3⟩ := (HS.out.kept (Kept.of_below HW.out [])).at k hlt
      have HC := Lib.hid (HP.out k _ _ wr hle (RepE.mk' j1 j2 j3 hS'))
      have HLE := Lib.hid hle
      clear hle hS'
      generalize Ex.mk op' n' nm' args' = e' at *
      cases hp : p e'
      · rw [hp] at HC
        have HN2 : Hid (∀ j y, j < k + 1 → l[j]? = some y → p y = false) := by
          intro j y hj hy
          rcases Nat.lt_or_ge j k with h | h
          · exact HN.out j y h hy
          · obtain rfl : j = k := by omega
            rw [HLE.out] at hy; injection hy with hy; subst hy; exact hp
        clear hp
        go_wp2_with fail
        refine HC.out.mono ?_; rintro r w1 ⟨rfl, b1⟩
        go_wp2
        go_roundw
        case rel => exact ⟨k + 1, by go_num, by omega, HW.out.trans (b1.mono HW.out.size), HN2⟩
        case measure => simp [intOf]; omega
      · rw [hp] at HC
        have F := Lib.hid (HF.out (k : Nat) (HH.out k e' HLE.out hp HN.out).symm)
        clear hp
        go_wp2_with fail
        refine HC.out.mono ?_; rintro r w1 ⟨rfl, b1⟩
        go_wp2
        go_ret
        exact ⟨F.out, HW.out.trans (b1.mono HW.out.size)⟩
    · have F := Lib.hid (HF.out (-1) (HM.out (fun j y hy => HN.out j y (by have := (List.getElem?_eq_some_iff.1 hy).1; have := HL.out; omega) hy)).symm)
      go_wp2
      go_ret
      exact ⟨F.out, HW.out⟩
theorem containsE_any (g : FuncId) (p : Ex → Bool) (l : List Ex) (a : Option Addr) (len cap : Nat) (w : World) (eg : ∀ args w, (callFunc g args).run Try.prog w = .ok (.enter g args) w) (hS : SlE w [] l a len cap)
    (hP : ∀ (k : Nat) (e : Ex) (cs : List Value) (W : World), l[k]? = some e → RepE W [] e cs → Calls Try.prog g #[.agg cs.toArray] W fun r W' => r = .returned (.bool (p e)) ∧ Below W.heap.size W W') :
    Calls Try.prog 46 #[.slice a len cap, .func (.func g) #[] #[]] w fun e w' => e = .returned (.bool (l.any p)) ∧ Below w.heap.size w w' := by
  have H := Lib.hid (indexE_any g p l a len cap w eg hS hP)
  have HE := Lib.hid (idxF_any p l)
  clear hS hP eg
  rw [← HE.out]
  generalize idxF p l = x at *
  go_enter Try.func46, Try.ntmps46
  go_wp2_with fail
  refine H.out.mono ?_; rintro r w1 ⟨rfl, b1⟩
  go_wp2
  go_ret
  exact ⟨rfl, b1⟩
set_option maxHeartbeats 1000000 in
theorem indexT_any (g : FuncId) (p : Te → Bool) (l : List Te) (a : Option Addr) (len cap : Nat) (w : World) (eg : ∀ args w, (callFunc g args).run Try.prog w = .ok (.enter g args) w) (hS : SlT w [] l a len cap)
    (hP : ∀ (k : Nat) (e : Te) (cs : List Value) (W : World), l[k]? = some e → RepT W [] e cs → Calls Try.prog g #[.agg cs.toArray] W fun r W' => r = .returned (.bool (p e)) ∧ Below W.heap.size W W') :
    Calls Try.prog 61 #[.slice a len cap, .func (.func g) #[] #[]] w fun e w' => e = .returned (.int .i64 (idxF p l)) ∧ Below w.heap.size w w' := by
  have HF : Hid (∀ x, x = idxF p l → Ending.returned (.int .i64 x) = .returned (.int .i64 (idxF p l))) := fun x h => by rw [h]
  have HH := Lib.hid (fun k x => idxF_hit p l k x)
  have HM := Lib.hid (idxF_miss p l)
  have HS := Lib.hid hS
  have HP := Lib.hid hP
  obtain ⟨f1, f2, f3⟩ := hS.facts
  have HL := Lib.hid f1
  clear hS hP f1
  go_enter Try.func61, Try.ntmps61
  go_wp2_with fail
  go_loopw [8] (fun i wr => ∃ k : Nat, i = .int .i64 (k : Nat) ∧ k ≤ len ∧ Hid (Below w.heap.size w wr) ∧ Hid (∀ j y, j < k → l[j]? = some y → p y = false)) (fun i _ => len - (intOf i).toNat)
  case atStart => exact ⟨0, rfl, Nat.zero_le _, Below.refl _ _, fun j y hj => absurd hj (Nat.not_lt_zero _)⟩
  case round =>
    obtain ⟨k, rfl, hk, HW, HN⟩ := hrel
    by_cases hlt : k < len
    · obtain ⟨b, o, op', nm', ex', te', a', len', cap', a3, len3, cap3, rfl, hb, hbx, hle, j1, j3, hS', hS3, g0, g1, g2, g3⟩ := (HS.out.kept (Kept.of_below HW.out [])).at k hlt
      have HC := Lib.hid (HP.out k _ _ wr hle (RepT.mk' j1 j3 hS' hS3))
      have HLE := Lib.hid hle
      clear hle hS' hS3
      generalize Te.mk op' nm' ex' te' = e' at *
      cases hp : p e'
      · rw [hp] at HC
        have HN2 : Hid (∀ j y, j < k + 1 → l[j]? = some y → p y = false) := by
          intro j y hj hy
          rcases Nat.lt_or_ge j k with h | h
          · exact HN.out j y h hy
          · obtain rfl : j = k := by omega
            rw [HLE.out] at hy; injection hy with hy; subst hy; exact hp
        clear hp
        go_wp2_with fail
        refine HC.out.mono ?_; rintro r w1 ⟨rfl, b1⟩
        go_wp2
        go_roundw
        case rel => exact ⟨k + 1, by go_num, by omega, HW.out.trans (b1.mono HW.out.size), HN2⟩
        case measure => simp [intOf]; omega
      · rw [hp] at HC
        have F := Lib.hid (HF.out (k : Nat) (HH.out k e' HLE.out hp HN.out).symm)
        clear hp
        go_wp2_with fail
        refine HC.out.mono ?_; rintro r w1 ⟨rfl, b1⟩
        go_wp2
        go_ret
        exact ⟨F.out, HW.out.trans (b1.mono HW.out.size)⟩
    · have F := Lib.hid (HF.out (-1) (HM.out (fun j y hy => HN.out j y (by have := (List.getElem?_eq_some_iff.1 hy).1; have := HL.out; omega) hy)).symm)
      go_wp2
      go_ret
      exact ⟨F.out, HW.out⟩
theorem containsT_any (g : FuncId) (p : Te → Bool) (l : List Te) (a : Option Addr) (len cap : Nat) (w : World) (eg : ∀ args w, (callFunc g args).run Try.prog w = .ok (.enter g args) w) (hS : SlT w [] l a len cap)
    (hP : ∀ (k : Nat) (e : Te) (cs : List Value) (W : World), l[k]? = some e → RepT W [] e cs → Calls Try.prog g #[.agg cs.toArray] W fun r W' => r = .returned (.bool (p e)) ∧ Below W.heap.size W W') :
    Calls Try.prog 48 #[.slice a len cap, .func (.func g) #[] #[]] w fun e w' => e = .returned (.bool (l.any p)) ∧ Below w.heap.size w w' := by
  have H := Lib.hid (indexT_any g p l a len cap w eg hS hP)
  have HE := Lib.hid (idxF_any p l)
  clear hS hP eg
  rw [← HE.out]
  generalize idxF p l = x at *
  go_enter Try.func48, Try.ntmps48
  go_wp2_with fail
  refine H.out.mono ?_; rintro r w1 ⟨rfl, b1⟩
  go_wp2
  go_ret
  exact ⟨rfl, b1⟩
end Go.Proofs.Ytjpkljkmignnjaa
