/- LedgerEven, walked. -/
import Derived.Test.YtgbiimoednmlgaaLdR
namespace Go.Proofs.Ytgbiimoednmlgaa
set_option linter.unusedVariables false
set_option linter.unusedSimpArgs false
open Go.RowKit
theorem ev_zero {m : List Mv} {out : List Acct} {e : Int} (h : Verd [] m out e) (he : e = 0) : m.all mayM = true ∧ FitL (conM m) ∧ PostOut out (conM m) := by
  rcases h with ⟨h, -, -⟩ | ⟨-, hm, ⟨h, -, -⟩ | ⟨-, hf, hp⟩⟩
  · omega
  · omega
  · exact ⟨hm, hf, hp⟩
theorem ev_bad {m : List Mv} {out : List Acct} {e : Int} (h : Verd [] m out e) (he : e ≠ 0) : out = [] := by
  rcases h with ⟨-, h, -⟩ | ⟨-, hm, ⟨-, h, -⟩ | ⟨h, hf, hp⟩⟩
  · exact h
  · exact h
  · exact absurd h he
theorem ev_one {m : List Mv} {one : List Acct} {e : Int} (n : Nat) (hm : m.all mayM = true) (h : Verd [] (m.take n) one e) : e = 2 ∨ (e = 0 ∧ OutOf one (conM (m.take n)) ∧ rightA one = true) := by
  have ht : (m.take n).all mayM = true := List.all_eq_true.2 (fun x hx => List.all_eq_true.1 hm x (List.mem_of_mem_take hx))
  rcases h with ⟨-, -, h⟩ | ⟨-, -, ⟨h, -, -⟩ | ⟨h, hf, hp⟩⟩
  · exact absurd ⟨rfl, ht⟩ h
  · exact .inl h
  · exact .inr ⟨h, hp.is, OutOf.right (L := conM (m.take n)) hp.is (mayM_nam ht)⟩
theorem ev_two {m : List Mv} {out one two : List Acct} {e : Int} (n : Nat) (hm : m.all mayM = true) (hf : FitL (conM m)) (ho : PostOut out (conM m)) (h1 : OutOf one (conM (m.take n))) (hr : rightA one = true) (h : Verd one (m.drop n) two e) : e = 0 ∧ two = out := by
  have hd : (m.drop n).all mayM = true := List.all_eq_true.2 (fun x hx => List.all_eq_true.1 hm x (List.mem_of_mem_drop hx))
  have ht : ∀ k, tot (conA one ++ conM (m.drop n)) k = tot (conM m) k := fun k => by rw [two_goes h1, List.take_append_drop]
  have hf2 : FitL (conA one ++ conM (m.drop n)) := fun k => by rw [ht]; exact hf k
  rcases h with ⟨-, -, h⟩ | ⟨-, -, ⟨-, -, h⟩ | ⟨h, -, hp⟩⟩
  · exact absurd ⟨hr, hd⟩ h
  · exact absurd hf2 h
  · exact ⟨h, hp.is.uniq ho.is ht⟩
set_option maxRecDepth 100000 in
set_option maxHeartbeats 4000000 in
theorem lawEven_any (m : List Mv) (ma : Option Addr) (ml mc : Nat) (k : Int) (w : World) (hm : SlR mvK w [] m ma ml mc) (_hk : (Lit.int .i64 k).wf = true) :
    Calls Try.prog 4 #[.slice ma ml mc, .int .i64 k] w fun x w' => x = .returned (.bool true) ∧ Below w.heap.size w w' := by
  have HM := Lib.hid hm
  have HML := Lib.hid hm.facts
  have HGR := Lib.hid (great_any [] m none 0 0 ma ml mc w (SlR.nil _ _ _) hm)
  have HEV : Hid (ml ≤ 40 → Calls Try.prog 20 #[.slice ma ml mc] w fun x w' => EvR w' m x ∧ Below w.heap.size w w') := fun h => evenl_any m ma ml mc w hm (by omega)
  clear hm
  go_enter Try.func4, Try.ntmps4
  go_wp2_with fail
  go_at_call 8
  (with_reducible refine HGR.out.mono ?_)
  rintro x w0 ⟨⟨b, rfl, hb⟩, rfl⟩
  clear HGR
  cases hbb : b with
  | true =>
    clear hb hbb
    go_wp2_with fail
    go_at_call 9
    (with_reducible refine (awake_any _).mono ?_)
    rintro y w1 ⟨rfl, b1⟩
    have HB1 := Lib.hid b1
    clear b1
    go_wp2_with fail
    go_ret
    exact ⟨rfl, HB1.out⟩
  | false =>
    have HL := Lib.hid (hb hbb).2
    clear hb hbb
    have HEV2 := Lib.hid (HEV.out HL.out)
    clear HEV
    go_wp2_with fail
    go_at_call 20
    (with_reducible refine HEV2.out.mono ?_)
    rintro y w1 ⟨⟨out, ba, bc, e, rfl, hsb, hv, hbl⟩, b1⟩
    have HB1 := Lib.hid b1
    have HSB := Lib.hid hsb
    have HV := Lib.hid hv
    have HBL := Lib.hid hbl
    clear HEV2 b1 hsb hv hbl
    by_cases he : e = 0
    · have hml40 := HL.out
      have hw1 : wrap64 ((ml : Int) + 1) = (ml : Int) + 1 := IntWalk.wrap64_in _ ⟨by omega, by omega⟩
      have hw2 : IntKind.u64.wrap ((ml : Int) + 1) = (ml : Int) + 1 := by
        simp [IntKind.wrap, IntKind.bits, IntKind.signed]; omega
      have hw3 : ¬ ((ml : Int) + 1 = 0) := by omega
      obtain ⟨n, hn, hnl⟩ : ∃ n : Nat, wrap64 ((IntKind.u64.wrap k).tmod ((ml : Int) + 1)) = (n : Int) ∧ n ≤ ml := by
        have h0 : 0 ≤ IntKind.u64.wrap k := by simp [IntKind.wrap, IntKind.bits, IntKind.signed]; omega
        have h1 := Int.tmod_nonneg ((ml : Int) + 1) h0
        have h2 := Int.tmod_lt_of_pos (IntKind.u64.wrap k) (show (0 : Int) < (ml : Int) + 1 by omega)
        refine ⟨((IntKind.u64.wrap k).tmod ((ml : Int) + 1)).toNat, ?_, by omega⟩
        rw [IntWalk.wrap64_in _ ⟨by omega, by omega⟩]; omega
      obtain ⟨q1, q2, q3⟩ := ev_zero HV.out he
      have HMM := Lib.hid q1
      have HFI := Lib.hid q2
      have HPO := Lib.hid q3
      have HEN := Lib.hid (PostOut.even q3 (mayM_nam q1))
      rw [decide_eq_true he]
      clear he HV q1 q2 q3
      have HBN : Hid (out.length ≤ 80) := by have := HBL.out; have := HL.out; have := HML.out.1; show _ ≤ _; omega
      have HEA := Lib.hid (even_any out ba out.length bc w1 HSB.out (by have := HBN.out; omega))
      rw [HEN.out] at HEA
      have HRA : Hid (∀ w2, Below w1.heap.size w1 w2 → Calls Try.prog 22 #[.slice ba out.length bc] w2 fun x w' => x = .returned (.bool true) ∧ Below w2.heap.size w2 w') := fun w2 b => (right_any out ba out.length bc w2 (HSB.out.kept (Kept.of_below b [])) (by have := HBN.out; omega)).mono fun x w' h => ⟨by
        rw [h.1]
        have h1 := HEN.out
        unfold evenA at h1
        rw [Bool.and_eq_true] at h1
        rw [h1.1], h.2⟩
      go_wp2_with fail
      go_at_call 21
      (with_reducible refine HEA.out.mono ?_)
      rintro y w2 ⟨rfl, b2⟩
      have HRA2 := Lib.hid (HRA.out w2 b2)
      have HB2 := Lib.hid (HB1.out.trans (b2.mono HB1.out.size))
      have HSB2 := Lib.hid (HSB.out.kept (Kept.of_below b2 []))
      clear HEA HRA b2 HB1 HSB
      go_wp2_with fail
      go_at_call 22
      (with_reducible refine HRA2.out.mono ?_)
      rintro y w3 ⟨rfl, b3⟩
      have HB3 := Lib.hid (HB2.out.trans (b3.mono HB2.out.size))
      have HSB3 := Lib.hid (HSB2.out.kept (Kept.of_below b3 []))
      clear HRA2 b3 HB2 HSB2
      go_upto_region 9 with (fail)
      rw [hn]
      have hn0 : (0 : Int) ≤ (n : Int) := by omega
      have hn1 : (n : Int) ≤ (ml : Int) := by omega
      have hn2 : (n : Int) ≤ (mc : Int) := by have := HML.out.2.1; omega
      have hm0 : (ml : Int) ≤ (mc : Int) := by have := HML.out.2.1; omega
      have HNL := Lib.hid hnl
      clear hn hw1 hw2 hw3
      have HM3 := Lib.hid (HM.out.kept (Kept.of_below HB3.out []))
      have HMV := Lib.hid (moves_any (m.take n) ma n mc w3 (HM3.out.take n hnl) (by omega))
      clear hnl hml40
      go_wp2_with fail
      go_at_call 11
      (with_reducible refine HMV.out.mono ?_)
      rintro x w4 ⟨⟨a4, c4, rfl, hs4⟩, b4⟩
      have HPO4 := Lib.hid (post_any [] (m.take n) none 0 0 a4 n c4 w4 (SlR.nil _ _ _) hs4 (by omega) (by have := HL.out; have := HNL.out; omega))
      have HB4 := Lib.hid (HB3.out.trans (b4.mono HB3.out.size))
      have HSB4 := Lib.hid (HSB3.out.kept (Kept.of_below b4 []))
      have HM4 := Lib.hid (HM3.out.kept (Kept.of_below b4 []))
      clear HMV hs4 b4 HB3 HSB3 HM3
      go_wp2_with fail
      go_at_call 12
      (with_reducible refine HPO4.out.mono ?_)
      rintro x w5 ⟨⟨one, oa, oc, e1, rfl, hs5, hv5, hl5⟩, b5⟩
      have HB5 := Lib.hid (HB4.out.trans (b5.mono HB4.out.size))
      have HSB5 := Lib.hid (HSB4.out.kept (Kept.of_below b5 []))
      have HM5 := Lib.hid (HM4.out.kept (Kept.of_below b5 []))
      have HON := Lib.hid hs5
      have HOL : Hid (one.length ≤ 80) := by
        have h1 := List.length_take_le n m
        have h2 := HNL.out
        have h3 := HL.out
        have h4 := HML.out.1
        rw [List.length_take] at hl5
        show _ ≤ _
        have h5 : ([] : List Acct).length = 0 := rfl
        omega
      have HEO := Lib.hid (ev_one n HMM.out hv5)
      clear HPO4 hs5 hv5 hl5 b5 HB4 HSB4 HM4
      rcases HEO.out with h2 | ⟨h0, ho1, hr1⟩
      · subst h2
        clear HEO
        go_wp2_with fail
        go_at_call 9
        (with_reducible refine (awake_any _).mono ?_)
        rintro y w6 ⟨rfl, b6⟩
        have HB6 := Lib.hid (HB5.out.trans (b6.mono HB5.out.size))
        clear b6
        go_wp2_with fail
        go_ret
        exact ⟨rfl, HB6.out⟩
      · subst h0
        have HO1 := Lib.hid ho1
        have HR1 := Lib.hid hr1
        have HFR := Lib.hid (HM5.out.from n HNL.out)
        by_cases hmn : mc = n
        · rw [if_pos hmn, show mc - n = 0 by omega] at HFR
          clear HEO ho1 hr1
          have HMV : Hid (Calls Try.prog 11 #[.slice ma (ml - n) 0] w5 _) := moves_any (m.drop n) ma (ml - n) 0 w5 HFR.out (by have := HL.out; omega)
          go_wp2_with fail
          go_at_call 11
          (with_reducible refine HMV.out.mono ?_)
          rintro x w6 ⟨⟨a6, c6, rfl, hs6⟩, b6⟩
          have HB6 := Lib.hid (HB5.out.trans (b6.mono HB5.out.size))
          have HSB6 := Lib.hid (HSB5.out.kept (Kept.of_below b6 []))
          have HPO6 := Lib.hid (post_any one (m.drop n) oa one.length oc a6 (ml - n) c6 w6 (HON.out.kept (Kept.of_below b6 [])) hs6 (by have := HOL.out; omega) (by have := HL.out; omega))
          clear HMV HFR hs6 b6 HB5 HSB5
          go_wp2_with fail
          go_at_call 12
          (with_reducible refine HPO6.out.mono ?_)
          rintro x w7 ⟨⟨two, ta, tc, e2, rfl, hs7, hv7, -⟩, b7⟩
          have HB7 := Lib.hid (HB6.out.trans (b7.mono HB6.out.size))
          have HSB7 := Lib.hid (HSB6.out.kept (Kept.of_below b7 []))
          obtain ⟨rfl, rfl⟩ := ev_two n HMM.out HFI.out HPO.out HO1.out HR1.out hv7
          have HTO := Lib.hid (told_any two ta two.length tc w7 hs7 (by have := HBN.out; omega))
          clear HPO6 hs7 hv7 b7 HB6 HSB6
          go_wp2_with fail
          go_at_call 14
          (with_reducible refine HTO.out.mono ?_)
          rintro x w8 ⟨⟨a8, c8, rfl, hs8⟩, b8⟩
          have HB8 := Lib.hid (HB7.out.trans (b8.mono HB7.out.size))
          have HTB := Lib.hid (told_any two ba two.length bc w8 (HSB7.out.kept (Kept.of_below b8 [])) (by have := HBN.out; omega))
          have HS8 := Lib.hid hs8
          clear HTO hs8 b8 HB7 HSB7
          go_wp2_with fail
          go_at_call 14
          (with_reducible refine HTB.out.mono ?_)
          rintro x w9 ⟨⟨a9, c9, rfl, hs9⟩, b9⟩
          have HB9 := Lib.hid (HB8.out.trans (b9.mono HB8.out.size))
          have HSM := Lib.hid (sameA_any two a8 a9 two.length c8 c9 w9 (HS8.out.kept (Kept.of_below b9 [])) hs9 (by have := HBN.out; omega))
          clear HTB HS8 hs9 b9 HB8
          go_wp2_with fail
          go_at_call 13
          (with_reducible refine HSM.out.mono ?_)
          rintro x w10 ⟨rfl, b10⟩
          have HB10 := Lib.hid (HB9.out.trans (b10.mono HB9.out.size))
          clear HSM b10 HB9
          go_wp2_with fail
          go_at_call 9
          (with_reducible refine (awake_any _).mono ?_)
          rintro y w11 ⟨rfl, b11⟩
          have HB11 := Lib.hid (HB10.out.trans (b11.mono HB10.out.size))
          clear b11
          go_wp2_with fail
          go_ret
          exact ⟨rfl, HB11.out⟩
        · rw [if_neg hmn] at HFR
          clear HEO ho1 hr1
          have HMV : Hid (Calls Try.prog 11 #[.slice (ma.map (fun p => p.add (n * 4))) (ml - n) (mc - n)] w5 _) := moves_any (m.drop n) (ma.map (fun p => p.add (n * 4))) (ml - n) (mc - n) w5 HFR.out (by have := HL.out; omega)
          go_wp2_with fail
          go_at_call 11
          (with_reducible refine HMV.out.mono ?_)
          rintro x w6 ⟨⟨a6, c6, rfl, hs6⟩, b6⟩
          have HB6 := Lib.hid (HB5.out.trans (b6.mono HB5.out.size))
          have HSB6 := Lib.hid (HSB5.out.kept (Kept.of_below b6 []))
          have HPO6 := Lib.hid (post_any one (m.drop n) oa one.length oc a6 (ml - n) c6 w6 (HON.out.kept (Kept.of_below b6 [])) hs6 (by have := HOL.out; omega) (by have := HL.out; omega))
          clear HMV HFR hs6 b6 HB5 HSB5
          go_wp2_with fail
          go_at_call 12
          (with_reducible refine HPO6.out.mono ?_)
          rintro x w7 ⟨⟨two, ta, tc, e2, rfl, hs7, hv7, -⟩, b7⟩
          have HB7 := Lib.hid (HB6.out.trans (b7.mono HB6.out.size))
          have HSB7 := Lib.hid (HSB6.out.kept (Kept.of_below b7 []))
          obtain ⟨rfl, rfl⟩ := ev_two n HMM.out HFI.out HPO.out HO1.out HR1.out hv7
          have HTO := Lib.hid (told_any two ta two.length tc w7 hs7 (by have := HBN.out; omega))
          clear HPO6 hs7 hv7 b7 HB6 HSB6
          go_wp2_with fail
          go_at_call 14
          (with_reducible refine HTO.out.mono ?_)
          rintro x w8 ⟨⟨a8, c8, rfl, hs8⟩, b8⟩
          have HB8 := Lib.hid (HB7.out.trans (b8.mono HB7.out.size))
          have HTB := Lib.hid (told_any two ba two.length bc w8 (HSB7.out.kept (Kept.of_below b8 [])) (by have := HBN.out; omega))
          have HS8 := Lib.hid hs8
          clear HTO hs8 b8 HB7 HSB7
          go_wp2_with fail
          go_at_call 14
          (with_reducible refine HTB.out.mono ?_)
          rintro x w9 ⟨⟨a9, c9, rfl, hs9⟩, b9⟩
          have HB9 := Lib.hid (HB8.out.trans (b9.mono HB8.out.size))
          have HSM := Lib.hid (sameA_any two a8 a9 two.length c8 c9 w9 (HS8.out.kept (Kept.of_below b9 [])) hs9 (by have := HBN.out; omega))
          clear HTB HS8 hs9 b9 HB8
          go_wp2_with fail
          go_at_call 13
          (with_reducible refine HSM.out.mono ?_)
          rintro x w10 ⟨rfl, b10⟩
          have HB10 := Lib.hid (HB9.out.trans (b10.mono HB9.out.size))
          clear HSM b10 HB9
          go_wp2_with fail
          go_at_call 9
          (with_reducible refine (awake_any _).mono ?_)
          rintro y w11 ⟨rfl, b11⟩
          have HB11 := Lib.hid (HB10.out.trans (b11.mono HB10.out.size))
          clear b11
          go_wp2_with fail
          go_ret
          exact ⟨rfl, HB11.out⟩
    · have hoe := ev_bad HV.out he
      subst hoe
      rw [decide_eq_false he]
      clear he HV HSB HBL
      go_wp2_with fail
      go_at_call 9
      (with_reducible refine (awake_any _).mono ?_)
      rintro y w2 ⟨rfl, b2⟩
      have HB2 := Lib.hid (HB1.out.trans (b2.mono HB1.out.size))
      clear b2
      go_wp2_with fail
      go_ret
      exact ⟨rfl, HB2.out⟩
end Go.Proofs.Ytgbiimoednmlgaa
