/- The contract of num.Sum. -/
import Derived.Test.YtgbiimoednmlgaaLdO
import Derived.Laws.Shifts
namespace Go.Proofs.Ytgbiimoednmlgaa
set_option linter.unusedVariables false
set_option linter.unusedSimpArgs false
open Go.RowKit
theorem add64_law (x y c : Nat) (hc : c ≤ 1) (w : World) :
    (callFunc 70 #[.int .u64 x, .int .u64 y, .int .u64 c]).run Try.prog w =
      .ok (.value (.tuple #[.int .u64 (((x + y + c) % 18446744073709551616 : Nat) : Int), .int .u64 (((x + y + c) / 18446744073709551616 : Nat) : Int)])) w := by
  rw [run_callFunc_extern Try.func70 (by kernel_rfl) (by kernel_rfl) (by kernel_rfl) (e := add64Entry) (by kernel_rfl), run_add64 x y c (by omega) (by omega) (by omega) (by omega)]
  simp only [Result.andThen]
  congr 5 <;> omega
theorem uw_wrap (n : Int) : IntKind.u64.wrap n = ((uw n : Nat) : Int) := by
  have : IntKind.u64.wrap n = n % 18446744073709551616 := by simp [IntKind.wrap, IntKind.bits, IntKind.signed]
  rw [this]; unfold uw; omega
theorem sw_wrap (n : Int) (h : I64 n) : IntKind.u64.wrap (n / 9223372036854775808) = ((sw n : Nat) : Int) := by
  have e : IntKind.u64.wrap (n / 9223372036854775808) = (n / 9223372036854775808) % 18446744073709551616 := by simp [IntKind.wrap, IntKind.bits, IntKind.signed]
  rw [e]; unfold sw; unfold I64 at h; split <;> omega
theorem low_wrap (lo : Nat) (h : lo < 18446744073709551616) : IntKind.i64.wrap (lo : Int) = lowI lo := by
  rw [IntKind.wrap_i64]; unfold lowI; split <;> omega
/-- Amounts in a row. -/
def IntsAt (w : World) (l : List Int) (a : Option Addr) (len : Nat) : Prop := l.length = len ∧ (∀ (k : Nat) n, l[k]? = some n → I64 n ∧ ∃ b o, a = some ⟨b, o, none⟩ ∧ w.cell? ⟨b, o + k, none⟩ = some (.int .i64 n))
set_option maxRecDepth 100000 in
set_option maxHeartbeats 4000000 in
theorem sum_any (l : List Int) (a : Option Addr) (len cap : Nat) (w : World) (h : IntsAt w l a len) (hlen : len ≤ 1000000000) :
    Calls Try.prog 37 #[.slice a len cap] w fun e w' => e = .returned (.tuple #[.int .i64 (if fits64 l.sum then l.sum else 0), .bool (fits64 l.sum)]) ∧ w = w' := by
  have HH := Lib.hid h
  have HLN := Lib.hid hlen
  obtain ⟨R, hR⟩ : ∃ R, R = (if fits64 l.sum then l.sum else 0) := ⟨_, rfl⟩
  obtain ⟨Q, hQ⟩ : ∃ Q, Q = fits64 l.sum := ⟨_, rfl⟩
  have HR := Lib.hid hR
  have HQ := Lib.hid hQ
  rw [← hR, ← hQ]
  clear h hR hQ
  go_enter Try.func37, Try.ntmps37
  go_wp2_with fail
  go_loopw [4, 5, 11] (fun hi lo i wr => ∃ (k H L : Nat), hi = .int .u64 (H : Nat) ∧ lo = .int .u64 (L : Nat) ∧ i = .int .i64 (k : Nat) ∧ k ≤ len ∧ wr = w ∧ Hid (Two64 (l.take k).sum H L)) (fun _ _ i _ => len - (intOf i).toNat)
  case atStart => exact ⟨0, 0, 0, rfl, rfl, rfl, Nat.zero_le _, rfl, Two64.nil⟩
  case round =>
    obtain ⟨k, H, L, rfl, rfl, rfl, hk, rfl, HT⟩ := hrel
    by_cases hlt : k < len
    · have hlt' : (k : Int) < (len : Int) := by omega
      have i0 : (0 : Int) ≤ (k : Int) := by omega
      have i1 : (k : Int) ≤ 1000000000 := by have := HLN.out; omega
      obtain ⟨n, hn⟩ : ∃ n, l[k]? = some n := ⟨_, List.getElem?_eq_getElem (by rw [HH.out.1]; exact hlt)⟩
      obtain ⟨hin, b, o, rfl, hc⟩ := HH.out.2 k n hn
      have HN := Lib.hid hn
      have HI := Lib.hid hin
      have e1 := uw_wrap n
      have e2 := sw_wrap n hin
      have hl1 : ∀ w, (callFunc 70 #[.int .u64 (L : Nat), .int .u64 (uw n : Nat), .int .u64 0]).run Try.prog w = .ok (.value (.tuple #[.int .u64 (((L + uw n + 0) % 18446744073709551616 : Nat) : Int), .int .u64 (((L + uw n + 0) / 18446744073709551616 : Nat) : Int)])) w := add64_law L (uw n) 0 (by omega)
      have hcar : (L + uw n + 0) / 18446744073709551616 ≤ 1 := by have := HT.out.lt; have : uw n < 18446744073709551616 := (by unfold uw; omega); omega
      have hl2 := add64_law H (sw n) ((L + uw n + 0) / 18446744073709551616) hcar
      have HT2 := Lib.hid (HT.out.add HI.out)
      rw [← sum_take HN.out] at HT2
      obtain ⟨L', hL'⟩ : ∃ x, x = (L + uw n + 0) % 18446744073709551616 := ⟨_, rfl⟩
      obtain ⟨C, hC⟩ : ∃ x, x = (L + uw n + 0) / 18446744073709551616 := ⟨_, rfl⟩
      obtain ⟨H', hH'⟩ : ∃ x, x = (H + sw n + C) % 18446744073709551616 := ⟨_, rfl⟩
      rw [← hC] at hl1 hl2 HT2
      rw [← hL'] at hl1 HT2
      rw [← hH'] at hl2 HT2
      clear hn hin hL' hC hH' hcar HN
      go_upto_region 6 with (fail)
      go_wp2_with (simp only [e1, e2, hl1, hl2])
      go_roundw
      case rel => exact ⟨k + 1, H', L', rfl, rfl, by go_num, by omega, trivial, HT2.out⟩
      case measure => simp [intOf]; omega
    · have hlt' : ¬ (k : Int) < (len : Int) := by omega
      have ht : l.take k = l := List.take_of_length_le (by rw [HH.out.1]; omega)
      rw [ht] at HT
      have hlw := low_wrap L HT.out.lt.2
      have hbd : -170141183460469231731687303715884105728 ≤ l.sum ∧ l.sum < 170141183460469231731687303715884105728 := by
        have h1 := sum_bound l (fun n hn => by
          obtain ⟨j, hj⟩ := List.getElem?_of_mem hn
          exact (HH.out.2 j n hj).1)
        have h2 := HH.out.1
        have h3 := HLN.out
        rw [h2] at h1
        omega
      have hfit := HT.out.fit hbd
      have HV := Lib.hid (HT.out.val)
      have hsw := sw_wrap (lowI L) (by have := HT.out.lt.2; unfold I64 lowI; split <;> omega)
      obtain ⟨LL, hLL⟩ : ∃ x, x = lowI L := ⟨_, rfl⟩
      rw [← hLL] at hlw hfit HV hsw
      obtain ⟨SW, hSW⟩ : ∃ x, x = sw LL := ⟨_, rfl⟩
      rw [← hSW] at hfit hsw
      clear hLL hSW ht hbd
      by_cases hf : H = SW
      · have hne : ((H : Int) != (SW : Int)) = false := by rw [bne_eq_false_iff_eq]; omega
        have hT := hfit.1 hf
        have hq : fits64 l.sum = true := by unfold fits64; rw [decide_eq_true hT.1, decide_eq_true hT.2]; rfl
        have HX : Hid (R = LL ∧ Q = true) := ⟨by rw [HR.out, hq, if_pos rfl]; exact (HV.out hT).symm, by rw [HQ.out, hq]⟩
        clear hfit HV hf hT hq HR HQ HT
        go_wp2_with (simp only [hlw, hsw])
        go_ret2
        exact ⟨by rw [HX.out.1, HX.out.2]; rfl, rfl⟩
      · have hne : ((H : Int) != (SW : Int)) = true := by rw [bne_iff_ne]; omega
        have hq : fits64 l.sum = false := by
          cases hq : fits64 l.sum with
          | false => rfl
          | true =>
            unfold fits64 at hq
            rw [Bool.and_eq_true, decide_eq_true_iff, decide_eq_true_iff] at hq
            exact absurd (hfit.2 hq) hf
        have HX : Hid (R = 0 ∧ Q = false) := ⟨by rw [HR.out, hq]; rfl, by rw [HQ.out, hq]⟩
        clear hfit HV hf hq HR HQ HT
        go_wp2_with (simp only [hlw, hsw])
        go_ret2
        exact ⟨by rw [HX.out.1, HX.out.2]; rfl, rfl⟩
end Go.Proofs.Ytgbiimoednmlgaa
