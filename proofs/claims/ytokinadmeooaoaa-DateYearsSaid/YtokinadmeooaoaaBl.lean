import Derived.Test.YtokinadmeooaoaaBk
namespace Go.Proofs.Ytokinadmeooaoaa
open Go.RowKit
theorem Nums.uniq {w : World} {a : Option Addr} {len cap : Nat} {l l' : List Nat} (h : Nums w a len cap l) (h' : Nums w a len cap l') : l = l' := by
  obtain ⟨h1, _, _, h3⟩ := h
  obtain ⟨h1', _, _, h3'⟩ := h'
  apply List.ext_getElem (by omega)
  intro i hi hi'
  obtain ⟨b, o, ha, _, hc⟩ := h3 (by omega)
  obtain ⟨b', o', ha', _, hc'⟩ := h3' (by omega)
  rw [ha] at ha'; cases ha'
  have e := hc i _ (List.getElem?_eq_getElem hi)
  have e' := hc' i _ (List.getElem?_eq_getElem hi')
  rw [e] at e'
  simp at e'; omega
theorem MagR.uniq {w : World} {v : Value} {m n : Nat} (h : MagR w v m) (h' : MagR w v n) : m = n := by
  obtain ⟨a, len, cap, l, rfl, h1, _, rfl⟩ := h
  obtain ⟨a', len', cap', l', e, h1', _, rfl⟩ := h'
  cases e
  rw [h1.uniq h1']
open Classical in
noncomputable def magOf (w : World) (v : Value) : Nat := if h : ∃ n, MagR w v n then h.choose else 0
theorem magOf_eq {w : World} {v : Value} {n : Nat} (h : MagR w v n) : magOf w v = n := by
  unfold magOf
  rw [dif_pos ⟨n, h⟩]
  exact MagR.uniq (Exists.choose_spec (⟨n, h⟩ : ∃ n, MagR w v n)) h
set_option maxHeartbeats 1000000 in
theorem gcd_any (u v : Value) (A B : Nat) (w : World) (hu : MagR w u A) (hv : MagR w v B) (hA : Md A) (hB : Md B) :
    Calls Try.prog 52 #[u, v] w fun e w' => (∃ r, e = .returned r ∧ MagR w' r (Nat.gcd A B)) ∧ Below w.heap.size w w' := by
  have HU := Lib.hid hu
  have HV := Lib.hid hv
  obtain ⟨a, len, cap, l, rfl, h1, h2, h3⟩ := hu
  obtain ⟨a', len', cap', l', rfl, h1', h2', h3'⟩ := hv
  clear h1 h2 h3 h1' h2' h3'
  go_enter Try.func52, Try.ntmps52
  go_wp2_with fail
  go_loopw [0, 1] (fun x y wr => ∃ m n : Nat, Hid (MagR wr x m) ∧ Hid (MagR wr y n) ∧ Md m ∧ Md n ∧ Hid (Nat.gcd m n = Nat.gcd A B) ∧ Hid (Below w.heap.size w wr)) (fun _ y wr => magOf wr y)
  case atStart => exact ⟨A, B, HU, HV, hA, hB, rfl, Below.refl _ _⟩
  case round =>
    obtain ⟨m, n, HM, HN, hm, hn, HG, HW⟩ := hrel
    obtain ⟨a2, len2, cap2, l2, rfl, q1, q2, q3⟩ := HN.out
    have hz := MagR.zero q1 q2 q3
    have hq := q1.2.1
    have hq2 := q1.2.2.1
    clear q1 q2 q3
    obtain ⟨a3, len3, cap3, l3, rfl, q1, q2, q3⟩ := HM.out
    clear q1 q2 q3
    by_cases hn0 : n = 0
    · have hl0 : len2 = 0 := by omega
      have FIN : Hid (m = Nat.gcd A B) := by show _ = _; rw [← HG.out, hn0, Nat.gcd_zero_right]
      subst hl0
      clear hz hn0
      go_wp2
      go_ret
      exact ⟨⟨_, rfl, by rw [← FIN.out]; exact HM.out⟩, HW.out⟩
    · have hp : 0 < len2 := by omega
      have HN0 : Hid (0 < n) := by show _ < _; omega
      clear hz hn0
      go_wp2_with fail
      refine (div_any _ _ m n _ HM.out HN.out HN0.out hm hn).mono ?_
      rintro e w1 ⟨⟨q, r, rfl, hq', hr⟩, b1⟩
      go_wp2
      go_roundw
      case rel =>
        refine ⟨n, m % n, HN.out.below b1, hr, hn, Md.of (Nat.lt_trans (Nat.mod_lt _ HN0.out) hn.lt), ?_, HW.out.trans (b1.mono HW.out.size)⟩
        show _ = _
        rw [← HG.out, Nat.gcd_comm m n, Nat.gcd_rec n m, Nat.gcd_comm]
      case measure => rw [magOf_eq hr, magOf_eq HN.out]; exact Nat.mod_lt _ HN0.out
end Go.Proofs.Ytokinadmeooaoaa
