/- A part of the proof: LdPw, LkD, Bld, Open, OpenL, one behind another. -/
import Derived.Test.YtgbiimoednmlgaaMOA
import Derived.Test.YtgbiimoednmlgaaMOB
import Derived.Test.YtgbiimoednmlgaaMOC
import Derived.Test.YtgbiimoednmlgaaMOD
import Derived.Test.YtgbiimoednmlgaaMOE
import Derived.Test.YtgbiimoednmlgaaMOF
import Derived.Test.YtgbiimoednmlgaaMOG
import Derived.Test.YtgbiimoednmlgaaMOH
import Derived.Test.YtgbiimoednmlgaaMOI
import Derived.Test.YtgbiimoednmlgaaMOJ
import Derived.Test.YtgbiimoednmlgaaMOK
import Derived.Test.YtgbiimoednmlgaaMOL
import Derived.Test.YtgbiimoednmlgaaMOM
import Derived.WalkKit
import Derived.ProofKit
import Derived.OpenShut
import Derived.ShutString
import Derived.ChangeOld
import Derived.Below
import Derived.Deep.Slices
import Derived.Deep.Fields
import Derived.ChangeSame
/- LedgerPosts, walked. -/
namespace Go.Proofs.Ytgbiimoednmlgaa
set_option linter.unusedVariables false
set_option linter.unusedSimpArgs false
open Go.RowKit
theorem verd_no {l : List Acct} {m : List Mv} {out : List Acct} {e : Int} (h : Verd l m out e) (hn : (rightA l && m.all mayM) = false) : out = [] ∧ e = 1 := by
  rcases h with ⟨h1, h2, -⟩ | ⟨h1, h2, -⟩
  · exact ⟨h2, h1⟩
  · rw [h1, h2] at hn; cases hn
theorem verd_far {l : List Acct} {m : List Mv} {out : List Acct} {e : Int} (h : Verd l m out e) (hy : rightA l = true ∧ m.all mayM = true) (hn : ¬ FitL (conA l ++ conM m)) : out = [] ∧ e = 2 := by
  rcases h with ⟨-, -, h⟩ | ⟨-, -, ⟨h1, h2, -⟩ | ⟨-, h, -⟩⟩
  · exact absurd hy h
  · exact ⟨h2, h1⟩
  · exact absurd h hn
theorem verd_yes {l : List Acct} {m : List Mv} {out : List Acct} {e : Int} (h : Verd l m out e) (hy : rightA l = true ∧ m.all mayM = true) (hf : FitL (conA l ++ conM m)) : e = 0 ∧ PostOut out (conA l ++ conM m) := by
  rcases h with ⟨-, -, h⟩ | ⟨-, -, ⟨-, -, h⟩ | ⟨h1, -, h⟩⟩
  · exact absurd hy h
  · exact absurd hf h
  · exact ⟨h1, h⟩
theorem all_take {m : List Mv} {k : Nat} {x : Mv} (h : m[k]? = some x) : (m.take (k + 1)).all mayM = ((m.take k).all mayM && mayM x) := by
  obtain ⟨hk, e⟩ := List.getElem?_eq_some_iff.1 h
  rw [← List.take_append_getElem hk, e, List.all_append]; simp
set_option maxRecDepth 100000 in
set_option maxHeartbeats 4000000 in
theorem lawPosts_any (l : List Acct) (m : List Mv) (la : Option Addr) (ll lc : Nat) (ma : Option Addr) (ml mc : Nat) (w : World) (hl : SlR acctK w [] l la ll lc) (hm : SlR mvK w [] m ma ml mc) :
    Calls Try.prog 3 #[.slice la ll lc, .slice ma ml mc] w fun x w' => x = .returned (.bool true) ∧ Below w.heap.size w w' := by
  have HS := Lib.hid hl
  have HM := Lib.hid hm
  have HLL := Lib.hid hl.facts.1
  have HML := Lib.hid hm.facts.1
  have HGR := Lib.hid (great_any l m la ll lc ma ml mc w hl hm)
  clear hl hm
  go_enter Try.func3, Try.ntmps3
  go_wp2_with fail
  go_at_call 8
  (with_reducible refine HGR.out.mono ?_)
  rintro x w0 ⟨⟨b, rfl, hb⟩, rfl⟩
  clear HGR
  cases hbb : b with
  | true =>
    clear hb hbb
    go_wp2_with fail
    go_at_call 9
    (with_reducible refine (awake_any _).mono ?_)
    rintro y w1 ⟨rfl, b1⟩
    have HB1 := Lib.hid b1
    clear b1
    go_wp2_with fail
    go_ret
    exact ⟨rfl, HB1.out⟩
  | false =>
    have HL := Lib.hid (hb hbb)
    clear hb hbb
    have HB := Lib.hid (Below.refl w0.heap.size w0)
    have HQ := Lib.hid (books_any l la ll lc w0 HS.out (by have := HL.out; omega))
    go_wp2_with fail
    go_at_call 10
    (with_reducible refine HQ.out.mono ?_)
    rintro x w1 ⟨⟨i1,j1,rfl,hs⟩, hb⟩
    have HX := Lib.hid hb
    replace HB := Lib.hid (HB.out.trans (hb.mono HB.out.size))
    clear hb HQ
    replace HS := Lib.hid (HS.out.kept (Kept.of_below HX.out []))
    replace HM := Lib.hid (HM.out.kept (Kept.of_below HX.out []))
    have HI := Lib.hid hs
    clear hs
    have HQ := Lib.hid (moves_any m ma ml mc w1 HM.out (by have := HL.out; omega))
    go_wp2_with fail
    go_at_call 11
    (with_reducible refine HQ.out.mono ?_)
    rintro x w2 ⟨⟨i2,j2,rfl,hs⟩, hb⟩
    have HX := Lib.hid hb
    replace HB := Lib.hid (HB.out.trans (hb.mono HB.out.size))
    clear hb HQ
    replace HS := Lib.hid (HS.out.kept (Kept.of_below HX.out []))
    replace HM := Lib.hid (HM.out.kept (Kept.of_below HX.out []))
    replace HI := Lib.hid (HI.out.kept (Kept.of_below HX.out []))
    have HY := Lib.hid hs
    clear hs
    have HQ := Lib.hid (post_any l m i1 ll j1 i2 ml j2 w2 HI.out HY.out (by have := HL.out; omega) (by have := HL.out; omega))
    go_wp2_with fail
    go_at_call 12
    (with_reducible refine HQ.out.mono ?_)
    rintro x w3 ⟨⟨out,oa,oc,e,rfl,hs,hv,hol⟩, hb⟩
    have HX := Lib.hid hb
    replace HB := Lib.hid (HB.out.trans (hb.mono HB.out.size))
    clear hb HQ
    replace HS := Lib.hid (HS.out.kept (Kept.of_below HX.out []))
    replace HM := Lib.hid (HM.out.kept (Kept.of_below HX.out []))
    replace HI := Lib.hid (HI.out.kept (Kept.of_below HX.out []))
    replace HY := Lib.hid (HY.out.kept (Kept.of_below HX.out []))
    have HO := Lib.hid hs
    have HV := Lib.hid hv
    have HOL : Hid (out.length ≤ 120) := by
      have h1 := HLL.out
      have h2 := HML.out
      have h3 := HL.out
      show _ ≤ _
      omega
    clear hs hv hol
    have HQ := Lib.hid (told_any l i1 ll j1 w3 HI.out (by have := HL.out; omega))
    go_wp2_with fail
    go_at_call 14
    (with_reducible refine HQ.out.mono ?_)
    rintro x w4 ⟨⟨i4,j4,rfl,hs⟩, hb⟩
    have HX := Lib.hid hb
    replace HB := Lib.hid (HB.out.trans (hb.mono HB.out.size))
    clear hb HQ
    replace HS := Lib.hid (HS.out.kept (Kept.of_below HX.out []))
    replace HM := Lib.hid (HM.out.kept (Kept.of_below HX.out []))
    replace HY := Lib.hid (HY.out.kept (Kept.of_below HX.out []))
    replace HO := Lib.hid (HO.out.kept (Kept.of_below HX.out []))
    have HQ := Lib.hid (sameA_any l i4 la ll j4 lc w4 hs HS.out (by have := HL.out; omega))
    clear hs HI
    go_wp2_with fail
    go_at_call 13
    (with_reducible refine HQ.out.mono ?_)
    rintro x w5 ⟨rfl, hb⟩
    have HX := Lib.hid hb
    replace HB := Lib.hid (HB.out.trans (hb.mono HB.out.size))
    clear hb HQ
    replace HS := Lib.hid (HS.out.kept (Kept.of_below HX.out []))
    replace HM := Lib.hid (HM.out.kept (Kept.of_below HX.out []))
    replace HY := Lib.hid (HY.out.kept (Kept.of_below HX.out []))
    replace HO := Lib.hid (HO.out.kept (Kept.of_below HX.out []))
    have HQ := Lib.hid (back_any m i2 ml j2 w5 HY.out (by have := HL.out; omega))
    go_wp2_with fail
    go_at_call 16
    (with_reducible refine HQ.out.mono ?_)
    rintro x w6 ⟨⟨i6,j6,rfl,hs⟩, hb⟩
    have HX := Lib.hid hb
    replace HB := Lib.hid (HB.out.trans (hb.mono HB.out.size))
    clear hb HQ
    replace HS := Lib.hid (HS.out.kept (Kept.of_below HX.out []))
    replace HM := Lib.hid (HM.out.kept (Kept.of_below HX.out []))
    replace HO := Lib.hid (HO.out.kept (Kept.of_below HX.out []))
    have HQ := Lib.hid (sameM_any m i6 ma ml j6 mc w6 hs HM.out (by have := HL.out; omega))
    clear hs HY
    go_wp2_with fail
    go_at_call 15
    (with_reducible refine HQ.out.mono ?_)
    rintro x w7 ⟨rfl, hb⟩
    have HX := Lib.hid hb
    replace HB := Lib.hid (HB.out.trans (hb.mono HB.out.size))
    clear hb HQ
    replace HS := Lib.hid (HS.out.kept (Kept.of_below HX.out []))
    replace HM := Lib.hid (HM.out.kept (Kept.of_below HX.out []))
    replace HO := Lib.hid (HO.out.kept (Kept.of_below HX.out []))
    have HQ := Lib.hid (rright_any l la ll lc w7 HS.out (by have := HL.out; omega))
    obtain ⟨R, hR⟩ : ∃ R, R = rightA l := ⟨_, rfl⟩
    have HR := Lib.hid hR
    rw [← hR] at HQ
    clear hR
    go_wp2_with fail
    go_at_call 17
    (with_reducible refine HQ.out.mono ?_)
    rintro x w8 ⟨rfl, hb⟩
    have HX := Lib.hid hb
    replace HB := Lib.hid (HB.out.trans (hb.mono HB.out.size))
    clear hb HQ
    replace HS := Lib.hid (HS.out.kept (Kept.of_below HX.out []))
    replace HM := Lib.hid (HM.out.kept (Kept.of_below HX.out []))
    replace HO := Lib.hid (HO.out.kept (Kept.of_below HX.out []))
    have HB8 := Lib.hid (Below.refl w8.heap.size w8)
    go_wp2_with fail
    go_loopw [9, 10] (fun v i wr => ∃ (k : Nat) (c : Bool), v = .bool c ∧ i = .int .i64 (k : Nat) ∧ k ≤ ml ∧ Hid (c = (R && (m.take k).all mayM) ∧ Below w8.heap.size w8 wr)) (fun _ i _ => ml - (intOf i).toNat)
    case atStart => exact ⟨0, R, rfl, rfl, Nat.zero_le _, by simp, Below.refl _ _⟩
    case round =>
      obtain ⟨k, c, rfl, rfl, hk, HT⟩ := hrel
      by_cases hkt : k < ml
      · have hkt' : (k : Int) < (ml : Int) := by omega
        have k0 : (0 : Int) ≤ (k : Int) := by omega
        have k1 : (k : Int) ≤ 40 := by have := HL.out; omega
        obtain ⟨b, o, y, rfl, hy, hyo, u0, u1, u2, u3⟩ := mv_at (HM.out.kept (Kept.of_below HT.out.2 [])) k hkt
        have HTK := Lib.hid (all_take hy)
        have HC := Lib.hid HT.out.1
        have HBT := Lib.hid HT.out.2
        have HMY : Hid (∀ W, Calls Try.prog 18 #[.agg #[.string y.src, .string y.dst, .string y.coin, .int .i64 y.amt]] W _) := fun W => rmay_any y hyo W
        have HKT := Lib.hid hkt
        clear hy hyo HT hkt
        cases c with
        | false =>
          have HC2 : Hid (false = (R && (m.take (k + 1)).all mayM)) := by
            show _ = _
            rw [HTK.out, ← Bool.and_assoc, ← HC.out]; rfl
          clear HMY HTK HC
          go_wp2_with fail
          go_roundw
          case rel => exact ⟨k + 1, false, rfl, by go_num, by have := HKT.out; omega, HC2.out, HBT.out⟩
          case measure => simp [intOf]; have := HKT.out; omega
        | true =>
          have HC2 : Hid (mayM y = (R && (m.take (k + 1)).all mayM)) := by
            show _ = _
            rw [HTK.out, ← Bool.and_assoc, ← HC.out]; simp
          obtain ⟨Q, hQ⟩ : ∃ Q, Q = mayM y := ⟨_, rfl⟩
          rw [← hQ] at HC2 HMY
          clear hQ HTK HC
          go_wp2_with fail
          go_at_call 18
          (with_reducible refine (HMY.out _).mono ?_)
          rintro e w9 ⟨rfl, b9⟩
          have HBT2 := Lib.hid (HBT.out.trans (b9.mono HBT.out.size))
          clear HMY b9 u0 u1 u2 u3
          go_wp2_with fail
          go_roundw
          case rel => exact ⟨k + 1, Q, rfl, by go_num, by have := HKT.out; omega, HC2.out, HBT2.out⟩
          case measure => simp [intOf]; have := HKT.out; omega
      · have hkt' : ¬ (k : Int) < (ml : Int) := by omega
        have HC : Hid (c = (rightA l && m.all mayM)) := by
          have h := HT.out.1
          rw [List.take_of_length_le (by rw [HML.out]; omega), HR.out] at h
          exact h
        have HBT := Lib.hid HT.out.2
        clear HT hkt HR
        have HB := Lib.hid (HB.out.trans (HBT.out.mono HB.out.size))
        have HS := Lib.hid (HS.out.kept (Kept.of_below HBT.out []))
        have HM := Lib.hid (HM.out.kept (Kept.of_below HBT.out []))
        have HO := Lib.hid (HO.out.kept (Kept.of_below HBT.out []))
        cases c with
        | false =>
          obtain ⟨rfl, rfl⟩ := verd_no HV.out HC.out.symm
          clear HV HC HO HOL
          go_wp2_with fail
          go_at_call 9
          (with_reducible refine (awake_any _).mono ?_)
          rintro y wz ⟨rfl, bz⟩
          have HZ := Lib.hid (HB.out.trans (bz.mono HB.out.size))
          clear bz
          go_wp2_with fail
          go_ret
          exact ⟨rfl, HZ.out⟩
        | true =>
          have HYS : Hid (rightA l = true ∧ m.all mayM = true) := by
            have h := HC.out
            rw [eq_comm, Bool.and_eq_true] at h
            exact h
          have HQ := Lib.hid (rpost_any l m la ll lc ma ml mc _ HS.out HM.out (by have := HL.out; omega) (by have := HL.out; omega) HYS.out.1)
          clear HC
          go_wp2_with fail
          go_at_call 19
          (with_reducible refine HQ.out.mono ?_)
          rintro x w9 ⟨⟨o2,pa,pc,b2,rfl,hs,-,hf⟩, hb⟩
          have HX := Lib.hid hb
          replace HB := Lib.hid (HB.out.trans (hb.mono HB.out.size))
          clear hb HQ
          rcases hf with ⟨rfl, hf⟩ | ⟨rfl, hf, ho⟩
          · obtain ⟨rfl, rfl⟩ := verd_far HV.out HYS.out hf
            clear HV HO HOL hs hf HYS HS HM
            go_wp2_with fail
            go_at_call 9
            (with_reducible refine (awake_any _).mono ?_)
            rintro y wz ⟨rfl, bz⟩
            have HZ := Lib.hid (HB.out.trans (bz.mono HB.out.size))
            clear bz
            go_wp2_with fail
            go_ret
            exact ⟨rfl, HZ.out⟩
          · obtain ⟨rfl, hp⟩ := verd_yes HV.out HYS.out hf
            obtain rfl : o2 = out := ho.uniq hp.is (fun _ => rfl)
            have HW := Lib.hid hs
            clear HV hs hf ho hp HYS HS HM
            have HQ := Lib.hid (told_any o2 oa o2.length oc w9 (HO.out.kept (Kept.of_below HX.out [])) (by have := HOL.out; omega))
            go_wp2_with fail
            go_at_call 14
            (with_reducible refine HQ.out.mono ?_)
            rintro x w10 ⟨⟨i9,j9,rfl,hs⟩, hb⟩
            have HX := Lib.hid hb
            replace HB := Lib.hid (HB.out.trans (hb.mono HB.out.size))
            clear hb HQ
            have HQ := Lib.hid (sameA_any o2 i9 pa o2.length j9 pc w10 hs (HW.out.kept (Kept.of_below HX.out [])) (by have := HOL.out; omega))
            clear hs HO HW
            go_wp2_with fail
            go_at_call 13
            (with_reducible refine HQ.out.mono ?_)
            rintro x w11 ⟨rfl, hb⟩
            have HX := Lib.hid hb
            replace HB := Lib.hid (HB.out.trans (hb.mono HB.out.size))
            clear hb HQ
            go_wp2_with fail
            go_at_call 9
            (with_reducible refine (awake_any _).mono ?_)
            rintro y wz ⟨rfl, bz⟩
            have HZ := Lib.hid (HB.out.trans (bz.mono HB.out.size))
            clear bz
            go_wp2_with fail
            go_ret
            exact ⟨rfl, HZ.out⟩
end Go.Proofs.Ytgbiimoednmlgaa

/- LedgerLooks, walked. -/
namespace Go.Proofs.Ytgbiimoednmlgaa
set_option linter.unusedVariables false
set_option linter.unusedSimpArgs false
open Go.RowKit Go.ChangeShapes
theorem getA_yes {l : List Acct} {k : Ky} (h : rightA l = true) : getR l k = getA l k := by
  unfold getA
  rw [h, if_pos rfl]
  exact getR_tot (rightA_iff.1 h).2
theorem getA_no {l : List Acct} {k : Ky} (h : rightA l = false) : getA l k = 0 := by
  unfold getA
  rw [h]; rfl
set_option maxRecDepth 100000 in
set_option maxHeartbeats 8000000 in
theorem lawLooks_any (l : List Acct) (m : List Mv) (la : Option Addr) (ll lc : Nat) (ma : Option Addr) (ml mc : Nat) (p c : ByteArray) (w : World) (hl : SlR acctK w [] l la ll lc) (hm : SlR mvK w [] m ma ml mc) (_hp : p.size ≤ maxLen) (_hc : c.size ≤ maxLen) :
    Calls Try.prog 6 #[.slice la ll lc, .slice ma ml mc, .string p, .string c] w fun x w' => x = .returned (.bool true) ∧ Below w.heap.size w w' := by
  have HS := Lib.hid hl
  have HM := Lib.hid hm
  have HLL := Lib.hid hl.facts.1
  have HML := Lib.hid hm.facts.1
  have HGR := Lib.hid (great_any l m la ll lc ma ml mc w hl hm)
  clear hl hm
  go_enter Try.func6, Try.ntmps6
  go_wp2_with fail
  go_at_call 8
  (with_reducible refine HGR.out.mono ?_)
  rintro x w0 ⟨⟨b, rfl, hb⟩, rfl⟩
  clear HGR
  have HB := Lib.hid (Below.refl w0.heap.size w0)
  cases hbb : b with
  | true =>
    clear hb hbb
    go_wp2_with fail
    go_at_call 9
    (with_reducible refine (awake_any _).mono ?_)
    rintro y wz ⟨rfl, bz⟩
    have HZ := Lib.hid (HB.out.trans (bz.mono HB.out.size))
    clear bz
    go_wp2_with fail
    go_ret
    exact ⟨rfl, HZ.out⟩
  | false =>
    have HL := Lib.hid (hb hbb)
    clear hb hbb
    by_cases hg : (100 : Int) < (p.size : Int)
    · have hgd : decide ((100 : Int) < (p.size : Int)) = true := decide_eq_true hg
      clear hg
      go_wp2_with fail
      go_at_call 9
      (with_reducible refine (awake_any _).mono ?_)
      rintro y wz ⟨rfl, bz⟩
      have HZ := Lib.hid (HB.out.trans (bz.mono HB.out.size))
      clear bz
      go_wp2_with fail
      go_ret
      exact ⟨rfl, HZ.out⟩
    · have hgd : decide ((100 : Int) < (p.size : Int)) = false := decide_eq_false hg
      clear hg
      by_cases hg : (100 : Int) < (c.size : Int)
      · have hge : decide ((100 : Int) < (c.size : Int)) = true := decide_eq_true hg
        clear hg
        go_wp2_with fail
        go_at_call 9
        (with_reducible refine (awake_any _).mono ?_)
        rintro y wz ⟨rfl, bz⟩
        have HZ := Lib.hid (HB.out.trans (bz.mono HB.out.size))
        clear bz
        go_wp2_with fail
        go_ret
        exact ⟨rfl, HZ.out⟩
      · have hge : decide ((100 : Int) < (c.size : Int)) = false := decide_eq_false hg
        clear hg
        have HQ := Lib.hid (rright_any l la ll lc w0 HS.out (by have := HL.out; omega))
        obtain ⟨R, hR⟩ : ∃ R, R = rightA l := ⟨_, rfl⟩
        have HR := Lib.hid hR
        rw [← hR] at HQ
        clear hR
        go_wp2_with fail
        go_at_call 17
        (with_reducible refine HQ.out.mono ?_)
        rintro x w1 ⟨rfl, hb⟩
        have HX := Lib.hid hb
        replace HB := Lib.hid (HB.out.trans (hb.mono HB.out.size))
        clear hb HQ
        replace HS := Lib.hid (HS.out.kept (Kept.of_below HX.out []))
        replace HM := Lib.hid (HM.out.kept (Kept.of_below HX.out []))
        obtain ⟨k, hk⟩ : ∃ k, k = (p.data.toList, c.data.toList) := ⟨_, rfl⟩
        have HKK := Lib.hid hk
        clear hk
        cases R with
        | true =>
          obtain ⟨G, hG⟩ : ∃ G, G = getA l k := ⟨_, rfl⟩
          have HG : Hid (getA l k = G) := hG.symm
          have HQ := Lib.hid (rget_any l la ll lc p c w1 HS.out (by have := HL.out; omega))
          rw [← HKK.out, getA_yes HR.out.symm, HG.out] at HQ
          clear hG
          go_wp2_with fail
          go_at_call 26
          (with_reducible refine HQ.out.mono ?_)
          rintro x w2 ⟨rfl, rfl⟩
          clear HQ
          obtain ⟨w3, hw3⟩ : ∃ W, W = w2 := ⟨_, rfl⟩
          rw [← hw3] at HX HB HS HM ⊢
          clear hw3 hgd hge
          have HQ := Lib.hid (moves_any m ma ml mc w3 HM.out (by have := HL.out; omega))
          go_wp2_with fail
          go_at_call 11
          (with_reducible refine HQ.out.mono ?_)
          rintro x w4 ⟨⟨i1,j1,rfl,hs⟩, hb⟩
          have HX := Lib.hid hb
          replace HB := Lib.hid (HB.out.trans (hb.mono HB.out.size))
          clear hb HQ
          replace HS := Lib.hid (HS.out.kept (Kept.of_below HX.out []))
          replace HM := Lib.hid (HM.out.kept (Kept.of_below HX.out []))
          have HQ := Lib.hid (touched_any m i1 ml j1 w4 hs (by have := HL.out; omega))
          clear hs
          go_wp2_with fail
          go_at_call 27
          (with_reducible refine HQ.out.mono ?_)
          rintro x w5 ⟨⟨t,ta,tc,rfl,hs,ht,htl⟩, hb⟩
          have HX := Lib.hid hb
          replace HB := Lib.hid (HB.out.trans (hb.mono HB.out.size))
          clear hb HQ
          replace HS := Lib.hid (HS.out.kept (Kept.of_below HX.out []))
          replace HM := Lib.hid (HM.out.kept (Kept.of_below HX.out []))
          have HT := Lib.hid hs
          have HTT := Lib.hid ht
          have HTL : Hid (t.length ≤ 2000) := by have := HL.out; show _ ≤ _; omega
          clear hs ht htl
          have HQ := Lib.hid (rtouched_any m ma ml mc w5 HM.out (by have := HL.out; omega))
          go_wp2_with fail
          go_at_call 28
          (with_reducible refine HQ.out.mono ?_)
          rintro x w6 ⟨⟨u,ua,uc,rfl,hs,hu⟩, hb⟩
          have HX := Lib.hid hb
          replace HB := Lib.hid (HB.out.trans (hb.mono HB.out.size))
          clear hb HQ
          replace HS := Lib.hid (HS.out.kept (Kept.of_below HX.out []))
          replace HM := Lib.hid (HM.out.kept (Kept.of_below HX.out []))
          replace HT := Lib.hid (HT.out.kept (Kept.of_below HX.out []))
          obtain rfl : t = u := HTT.out.uniq hu
          have HU := Lib.hid hs
          clear hs hu HTT HX
          go_wp2_with fail
          go_loopw [12] (fun vi wr => ∃ (i : Nat), vi = .int .i64 (i : Nat) ∧ i ≤ t.length ∧ Hid (Below w6.heap.size w6 wr)) (fun vi _ => t.length - (intOf vi).toNat)
          case atStart => exact ⟨0, rfl, Nat.zero_le _, Below.refl _ _⟩
          case round =>
            rename World => wr
            obtain ⟨i, rfl, hi, HR6⟩ := hrel
            have i1 : (i : Int) ≤ 2000 := by have := HTL.out; omega
            by_cases hlt : i < t.length
            · have hlt' : (i : Int) < (t.length : Int) := by omega
              have i0 : (0 : Int) ≤ (i : Int) := by omega
              obtain ⟨bb, oo, x, hba, hx, c0, c1⟩ := kt_at (HT.out.kept (Kept.of_below HR6.out [])) i hlt
              obtain ⟨bu, ou, y, hbu, hy, -, d0, d1, -⟩ := acct_at (HU.out.kept (Kept.of_below HR6.out [])) i hlt
              rw [hx] at hy
              injection hy with hy
              subst hy
              have HBA := Lib.hid hba
              have HBU := Lib.hid hbu
              subst hba; subst hbu
              have HLT := Lib.hid hlt
              clear hx hlt
              have hs1 := same_b x.party x.party
              rw [decide_eq_true rfl] at hs1
              have hs2 := same_b x.coin x.coin
              rw [decide_eq_true rfl] at hs2
              go_upto_region 13 with (fail)
              go_quiet (fail)
              have bq : Below wr.heap.size wr (wr.drewN nq) := below_dN (Below.refl wr.heap.size wr) nq
              have HR7 := Lib.hid (HR6.out.trans (bq.mono HR6.out.size))
              clear bq c0 c1 d0 d1 HR6
              generalize wr.drewN nq = wq at *
              go_wp2_with fail
              go_roundw
              case rel => exact ⟨i + 1, by go_num, by have := HLT.out; omega, HR7.out⟩
              case measure => simp [intOf]; have := HLT.out; omega
            · have hlt' : ¬ (i : Int) < (t.length : Int) := by omega
              replace HB := Lib.hid (HB.out.trans (HR6.out.mono HB.out.size))
              replace HS := Lib.hid (HS.out.kept (Kept.of_below HR6.out []))
              replace HM := Lib.hid (HM.out.kept (Kept.of_below HR6.out []))
              clear hlt HR6 HT HU
              have HQ := Lib.hid (books_any l la ll lc wr HS.out (by have := HL.out; omega))
              go_wp2_with fail
              go_at_call 10
              (with_reducible refine HQ.out.mono ?_)
              rintro x w7 ⟨⟨i7,j7,rfl,hs⟩, hb⟩
              have HX := Lib.hid hb
              replace HB := Lib.hid (HB.out.trans (hb.mono HB.out.size))
              clear hb HQ
              replace HS := Lib.hid (HS.out.kept (Kept.of_below HX.out []))
              replace HM := Lib.hid (HM.out.kept (Kept.of_below HX.out []))
              have HQ := Lib.hid (right_any l i7 ll j7 w7 hs (by have := HL.out; omega))
              rw [← HR.out] at HQ
              clear hs
              go_wp2_with fail
              go_at_call 22
              (with_reducible refine HQ.out.mono ?_)
              rintro x w8 ⟨rfl, hb⟩
              have HX := Lib.hid hb
              replace HB := Lib.hid (HB.out.trans (hb.mono HB.out.size))
              clear hb HQ
              replace HS := Lib.hid (HS.out.kept (Kept.of_below HX.out []))
              replace HM := Lib.hid (HM.out.kept (Kept.of_below HX.out []))
              have HQ := Lib.hid (rright_any l la ll lc w8 HS.out (by have := HL.out; omega))
              rw [← HR.out] at HQ
              go_wp2_with fail
              go_at_call 17
              (with_reducible refine HQ.out.mono ?_)
              rintro x w9 ⟨rfl, hb⟩
              have HX := Lib.hid hb
              replace HB := Lib.hid (HB.out.trans (hb.mono HB.out.size))
              clear hb HQ
              replace HS := Lib.hid (HS.out.kept (Kept.of_below HX.out []))
              replace HM := Lib.hid (HM.out.kept (Kept.of_below HX.out []))
              obtain ⟨E, hE⟩ : ∃ E, E = evenA l := ⟨_, rfl⟩
              have HE := Lib.hid hE
              clear hE
              have HQ := Lib.hid (books_any l la ll lc w9 HS.out (by have := HL.out; omega))
              go_wp2_with fail
              go_at_call 10
              (with_reducible refine HQ.out.mono ?_)
              rintro x w10 ⟨⟨i10,j10,rfl,hs⟩, hb⟩
              have HX := Lib.hid hb
              replace HB := Lib.hid (HB.out.trans (hb.mono HB.out.size))
              clear hb HQ
              replace HS := Lib.hid (HS.out.kept (Kept.of_below HX.out []))
              replace HM := Lib.hid (HM.out.kept (Kept.of_below HX.out []))
              have HQ := Lib.hid (even_any l i10 ll j10 w10 hs (by have := HL.out; omega))
              rw [← HE.out] at HQ
              clear hs
              go_wp2_with fail
              go_at_call 21
              (with_reducible refine HQ.out.mono ?_)
              rintro x w11 ⟨rfl, hb⟩
              have HX := Lib.hid hb
              replace HB := Lib.hid (HB.out.trans (hb.mono HB.out.size))
              clear hb HQ
              replace HS := Lib.hid (HS.out.kept (Kept.of_below HX.out []))
              replace HM := Lib.hid (HM.out.kept (Kept.of_below HX.out []))
              have HQ := Lib.hid (reven_any l la ll lc w11 HS.out (by have := HL.out; omega))
              rw [← HE.out] at HQ
              go_wp2_with fail
              go_at_call 23
              (with_reducible refine HQ.out.mono ?_)
              rintro x w12 ⟨rfl, hb⟩
              have HX := Lib.hid hb
              replace HB := Lib.hid (HB.out.trans (hb.mono HB.out.size))
              clear hb HQ
              replace HS := Lib.hid (HS.out.kept (Kept.of_below HX.out []))
              replace HM := Lib.hid (HM.out.kept (Kept.of_below HX.out []))
              have hee : (E == E) = true := by simp
              have HQ := Lib.hid (books_any l la ll lc w12 HS.out (by have := HL.out; omega))
              go_wp2_with fail
              go_at_call 10
              (with_reducible refine HQ.out.mono ?_)
              rintro x w13 ⟨⟨i13,j13,rfl,hs⟩, hb⟩
              have HX := Lib.hid hb
              replace HB := Lib.hid (HB.out.trans (hb.mono HB.out.size))
              clear hb HQ
              replace HS := Lib.hid (HS.out.kept (Kept.of_below HX.out []))
              replace HM := Lib.hid (HM.out.kept (Kept.of_below HX.out []))
              have HQ := Lib.hid (get_any l i13 ll j13 p c w13 hs (by have := HL.out; omega))
              rw [← HKK.out, HG.out] at HQ
              clear hs
              go_wp2_with fail
              go_at_call 29
              (with_reducible refine HQ.out.mono ?_)
              rintro x w14 ⟨rfl, hb⟩
              have HX := Lib.hid hb
              replace HB := Lib.hid (HB.out.trans (hb.mono HB.out.size))
              clear hb HQ
              go_wp2_with fail
              go_at_call 9
              (with_reducible refine (awake_any _).mono ?_)
              rintro y wz ⟨rfl, bz⟩
              have HZ := Lib.hid (HB.out.trans (bz.mono HB.out.size))
              clear bz
              go_wp2_with fail
              go_ret
              exact ⟨rfl, HZ.out⟩
        | false =>
          have HG : Hid (getA l k = 0) := getA_no HR.out.symm
          obtain ⟨w3, hw3⟩ : ∃ W, W = w1 := ⟨_, rfl⟩
          rw [← hw3] at HX HB HS HM ⊢
          clear hw3 hgd hge
          have HQ := Lib.hid (moves_any m ma ml mc w3 HM.out (by have := HL.out; omega))
          go_wp2_with fail
          go_at_call 11
          (with_reducible refine HQ.out.mono ?_)
          rintro x w4 ⟨⟨i1,j1,rfl,hs⟩, hb⟩
          have HX := Lib.hid hb
          replace HB := Lib.hid (HB.out.trans (hb.mono HB.out.size))
          clear hb HQ
          replace HS := Lib.hid (HS.out.kept (Kept.of_below HX.out []))
          replace HM := Lib.hid (HM.out.kept (Kept.of_below HX.out []))
          have HQ := Lib.hid (touched_any m i1 ml j1 w4 hs (by have := HL.out; omega))
          clear hs
          go_wp2_with fail
          go_at_call 27
          (with_reducible refine HQ.out.mono ?_)
          rintro x w5 ⟨⟨t,ta,tc,rfl,hs,ht,htl⟩, hb⟩
          have HX := Lib.hid hb
          replace HB := Lib.hid (HB.out.trans (hb.mono HB.out.size))
          clear hb HQ
          replace HS := Lib.hid (HS.out.kept (Kept.of_below HX.out []))
          replace HM := Lib.hid (HM.out.kept (Kept.of_below HX.out []))
          have HT := Lib.hid hs
          have HTT := Lib.hid ht
          have HTL : Hid (t.length ≤ 2000) := by have := HL.out; show _ ≤ _; omega
          clear hs ht htl
          have HQ := Lib.hid (rtouched_any m ma ml mc w5 HM.out (by have := HL.out; omega))
          go_wp2_with fail
          go_at_call 28
          (with_reducible refine HQ.out.mono ?_)
          rintro x w6 ⟨⟨u,ua,uc,rfl,hs,hu⟩, hb⟩
          have HX := Lib.hid hb
          replace HB := Lib.hid (HB.out.trans (hb.mono HB.out.size))
          clear hb HQ
          replace HS := Lib.hid (HS.out.kept (Kept.of_below HX.out []))
          replace HM := Lib.hid (HM.out.kept (Kept.of_below HX.out []))
          replace HT := Lib.hid (HT.out.kept (Kept.of_below HX.out []))
          obtain rfl : t = u := HTT.out.uniq hu
          have HU := Lib.hid hs
          clear hs hu HTT HX
          go_wp2_with fail
          go_loopw [12] (fun vi wr => ∃ (i : Nat), vi = .int .i64 (i : Nat) ∧ i ≤ t.length ∧ Hid (Below w6.heap.size w6 wr)) (fun vi _ => t.length - (intOf vi).toNat)
          case atStart => exact ⟨0, rfl, Nat.zero_le _, Below.refl _ _⟩
          case round =>
            rename World => wr
            obtain ⟨i, rfl, hi, HR6⟩ := hrel
            have i1 : (i : Int) ≤ 2000 := by have := HTL.out; omega
            by_cases hlt : i < t.length
            · have hlt' : (i : Int) < (t.length : Int) := by omega
              have i0 : (0 : Int) ≤ (i : Int) := by omega
              obtain ⟨bb, oo, x, hba, hx, c0, c1⟩ := kt_at (HT.out.kept (Kept.of_below HR6.out [])) i hlt
              obtain ⟨bu, ou, y, hbu, hy, -, d0, d1, -⟩ := acct_at (HU.out.kept (Kept.of_below HR6.out [])) i hlt
              rw [hx] at hy
              injection hy with hy
              subst hy
              have HBA := Lib.hid hba
              have HBU := Lib.hid hbu
              subst hba; subst hbu
              have HLT := Lib.hid hlt
              clear hx hlt
              have hs1 := same_b x.party x.party
              rw [decide_eq_true rfl] at hs1
              have hs2 := same_b x.coin x.coin
              rw [decide_eq_true rfl] at hs2
              go_upto_region 13 with (fail)
              go_quiet (fail)
              have bq : Below wr.heap.size wr (wr.drewN nq) := below_dN (Below.refl wr.heap.size wr) nq
              have HR7 := Lib.hid (HR6.out.trans (bq.mono HR6.out.size))
              clear bq c0 c1 d0 d1 HR6
              generalize wr.drewN nq = wq at *
              go_wp2_with fail
              go_roundw
              case rel => exact ⟨i + 1, by go_num, by have := HLT.out; omega, HR7.out⟩
              case measure => simp [intOf]; have := HLT.out; omega
            · have hlt' : ¬ (i : Int) < (t.length : Int) := by omega
              replace HB := Lib.hid (HB.out.trans (HR6.out.mono HB.out.size))
              replace HS := Lib.hid (HS.out.kept (Kept.of_below HR6.out []))
              replace HM := Lib.hid (HM.out.kept (Kept.of_below HR6.out []))
              clear hlt HR6 HT HU
              have HQ := Lib.hid (books_any l la ll lc wr HS.out (by have := HL.out; omega))
              go_wp2_with fail
              go_at_call 10
              (with_reducible refine HQ.out.mono ?_)
              rintro x w7 ⟨⟨i7,j7,rfl,hs⟩, hb⟩
              have HX := Lib.hid hb
              replace HB := Lib.hid (HB.out.trans (hb.mono HB.out.size))
              clear hb HQ
              replace HS := Lib.hid (HS.out.kept (Kept.of_below HX.out []))
              replace HM := Lib.hid (HM.out.kept (Kept.of_below HX.out []))
              have HQ := Lib.hid (right_any l i7 ll j7 w7 hs (by have := HL.out; omega))
              rw [← HR.out] at HQ
              clear hs
              go_wp2_with fail
              go_at_call 22
              (with_reducible refine HQ.out.mono ?_)
              rintro x w8 ⟨rfl, hb⟩
              have HX := Lib.hid hb
              replace HB := Lib.hid (HB.out.trans (hb.mono HB.out.size))
              clear hb HQ
              replace HS := Lib.hid (HS.out.kept (Kept.of_below HX.out []))
              replace HM := Lib.hid (HM.out.kept (Kept.of_below HX.out []))
              have HQ := Lib.hid (rright_any l la ll lc w8 HS.out (by have := HL.out; omega))
              rw [← HR.out] at HQ
              go_wp2_with fail
              go_at_call 17
              (with_reducible refine HQ.out.mono ?_)
              rintro x w9 ⟨rfl, hb⟩
              have HX := Lib.hid hb
              replace HB := Lib.hid (HB.out.trans (hb.mono HB.out.size))
              clear hb HQ
              replace HS := Lib.hid (HS.out.kept (Kept.of_below HX.out []))
              replace HM := Lib.hid (HM.out.kept (Kept.of_below HX.out []))
              obtain ⟨E, hE⟩ : ∃ E, E = evenA l := ⟨_, rfl⟩
              have HE := Lib.hid hE
              clear hE
              have HQ := Lib.hid (books_any l la ll lc w9 HS.out (by have := HL.out; omega))
              go_wp2_with fail
              go_at_call 10
              (with_reducible refine HQ.out.mono ?_)
              rintro x w10 ⟨⟨i10,j10,rfl,hs⟩, hb⟩
              have HX := Lib.hid hb
              replace HB := Lib.hid (HB.out.trans (hb.mono HB.out.size))
              clear hb HQ
              replace HS := Lib.hid (HS.out.kept (Kept.of_below HX.out []))
              replace HM := Lib.hid (HM.out.kept (Kept.of_below HX.out []))
              have HQ := Lib.hid (even_any l i10 ll j10 w10 hs (by have := HL.out; omega))
              rw [← HE.out] at HQ
              clear hs
              go_wp2_with fail
              go_at_call 21
              (with_reducible refine HQ.out.mono ?_)
              rintro x w11 ⟨rfl, hb⟩
              have HX := Lib.hid hb
              replace HB := Lib.hid (HB.out.trans (hb.mono HB.out.size))
              clear hb HQ
              replace HS := Lib.hid (HS.out.kept (Kept.of_below HX.out []))
              replace HM := Lib.hid (HM.out.kept (Kept.of_below HX.out []))
              have HQ := Lib.hid (reven_any l la ll lc w11 HS.out (by have := HL.out; omega))
              rw [← HE.out] at HQ
              go_wp2_with fail
              go_at_call 23
              (with_reducible refine HQ.out.mono ?_)
              rintro x w12 ⟨rfl, hb⟩
              have HX := Lib.hid hb
              replace HB := Lib.hid (HB.out.trans (hb.mono HB.out.size))
              clear hb HQ
              replace HS := Lib.hid (HS.out.kept (Kept.of_below HX.out []))
              replace HM := Lib.hid (HM.out.kept (Kept.of_below HX.out []))
              have hee : (E == E) = true := by simp
              have HQ := Lib.hid (books_any l la ll lc w12 HS.out (by have := HL.out; omega))
              go_wp2_with fail
              go_at_call 10
              (with_reducible refine HQ.out.mono ?_)
              rintro x w13 ⟨⟨i13,j13,rfl,hs⟩, hb⟩
              have HX := Lib.hid hb
              replace HB := Lib.hid (HB.out.trans (hb.mono HB.out.size))
              clear hb HQ
              replace HS := Lib.hid (HS.out.kept (Kept.of_below HX.out []))
              replace HM := Lib.hid (HM.out.kept (Kept.of_below HX.out []))
              have HQ := Lib.hid (get_any l i13 ll j13 p c w13 hs (by have := HL.out; omega))
              rw [← HKK.out, HG.out] at HQ
              clear hs
              go_wp2_with fail
              go_at_call 29
              (with_reducible refine HQ.out.mono ?_)
              rintro x w14 ⟨rfl, hb⟩
              have HX := Lib.hid hb
              replace HB := Lib.hid (HB.out.trans (hb.mono HB.out.size))
              clear hb HQ
              go_wp2_with fail
              go_at_call 9
              (with_reducible refine (awake_any _).mono ?_)
              rintro y wz ⟨rfl, bz⟩
              have HZ := Lib.hid (HB.out.trans (bz.mono HB.out.size))
              clear bz
              go_wp2_with fail
              go_ret
              exact ⟨rfl, HZ.out⟩
end Go.Proofs.Ytgbiimoednmlgaa

/- Build: its nodes and numbers; plain. -/
namespace Go.Proofs.Ytgbiimoednmlgaa
set_option linter.unusedVariables false
set_option linter.unusedSimpArgs false
open Go.RowKit
theorem cell_lt {w : World} {a : Addr} {v : Value} (h : w.cell? a = some v) : a.block < w.heap.size := by
  rcases Nat.lt_or_ge a.block w.heap.size with h1 | h1
  · exact h1
  · have : w.heap[a.block]? = none := Array.getElem?_eq_none h1
    simp [World.cell?, this] at h
/-- What was there is there behind what only makes memory. -/
theorem cell_up {w w' : World} {p : Addr} {v : Value} (h : w.cell? p = some v) (hb : Below w.heap.size w w') : w'.cell? p = some v := (hb.cell (cell_lt h)).trans h
theorem below_new (w : World) (o : Obj) : Below w.heap.size w (w.alloc o).drew := ((Below.refl w.heap.size w).alloc (Nat.le_refl _) o).drew
def ndI (n : Nat) : Int := if n < 1000 then (n : Int) else 1000
def rkI (n r : Nat) : Int := if n < 1000 then (r : Int) else 1000
theorem ndI_bd (n : Nat) : 0 ≤ ndI n ∧ ndI n ≤ 1000 := by unfold ndI; split <;> omega
theorem rkI_bd (n r : Nat) (h : r < 1000) : 0 ≤ rkI n r ∧ rkI n r ≤ 1000 := by unfold rkI; split <;> omega
/-- Of S nodes, M deep, with k within: what N and D are so far. -/
structure Cnt (k S M : Nat) (N D : Int) : Prop where
  n1 : 1 ≤ N
  n2 : N ≤ 1 + 1000 * (k : Int)
  d1 : 1 ≤ D
  d2 : D ≤ 1001
  yes : S < 1000 → N = (S : Int) ∧ D = (M : Int)
  no : 1000 ≤ S → 1000 ≤ N ∨ 1000 ≤ D
theorem Cnt.one : Cnt 0 1 1 1 1 := ⟨by omega, by omega, by omega, by omega, fun _ => ⟨rfl, rfl⟩, fun h => by omega⟩
theorem Cnt.step {k S M : Nat} {N D : Int} (h : Cnt k S M N D) {n r : Nat} (hn : 1 ≤ n) (hr : r < 1000) : Cnt (k + 1) (S + n) (max M (r + 1)) (N + ndI n) (max D (rkI n r + 1)) := by
  obtain ⟨h1, h2, h3, h4, h5, h6⟩ := h
  have b1 := ndI_bd n
  have b2 := rkI_bd n r hr
  refine ⟨by omega, by omega, by omega, by omega, fun hS => ?_, fun hS => ?_⟩
  · obtain ⟨e1, e2⟩ := h5 (by omega)
    have hn' : n < 1000 := by omega
    unfold ndI rkI
    rw [if_pos hn', if_pos hn']
    constructor <;> omega
  · by_cases hS' : 1000 ≤ S
    · rcases h6 hS' with h7 | h7
      · exact .inl (by omega)
      · exact .inr (by omega)
    · obtain ⟨e1, e2⟩ := h5 (by omega)
      by_cases hn' : n < 1000
      · left; unfold ndI; rw [if_pos hn']; omega
      · left; unfold ndI; rw [if_neg hn']; omega
theorem Cnt.great {k S M : Nat} {N D : Int} (h : Cnt k S M N D) (hM : M < 1000) (hg : 1000 ≤ N ∨ 1000 ≤ D) : ndI S = 1000 ∧ rkI S M = 1000 := by
  have : ¬ S < 1000 := fun hS => by obtain ⟨e1, e2⟩ := h.yes hS; omega
  unfold ndI rkI
  rw [if_neg this, if_neg this]
  exact ⟨rfl, rfl⟩
theorem Cnt.small {k S M : Nat} {N D : Int} (h : Cnt k S M N D) (h1 : N < 1000) (h2 : D < 1000) : ndI S = N ∧ rkI S M = D := by
  have hS : S < 1000 := by
    rcases Nat.lt_or_ge S 1000 with h3 | h3
    · exact h3
    · rcases h.no h3 with h4 | h4 <;> omega
  obtain ⟨e1, e2⟩ := h.yes hS
  unfold ndI rkI
  rw [if_pos hS, if_pos hS]
  exact ⟨e1.symm, e2.symm⟩
theorem Ex.nd_snoc (l : List Ex) (x : Ex) : Ex.nd.go (l ++ [x]) = Ex.nd.go l + x.nd := by
  induction l with
  | nil => simp [Ex.nd.go]
  | cons y t ih => simp only [List.cons_append, Ex.nd.go, ih]; omega
theorem Ex.rk_snoc (l : List Ex) (x : Ex) : Ex.rk.go (l ++ [x]) = max (Ex.rk.go l) x.rk := by
  induction l with
  | nil => simp [Ex.rk.go]
  | cons y t ih => simp only [List.cons_append, Ex.rk.go, ih]; omega
theorem Te.nd_snoc (l : List Te) (x : Te) : Te.nd.go (l ++ [x]) = Te.nd.go l + x.nd := by
  induction l with
  | nil => simp [Te.nd.go]
  | cons y t ih => simp only [List.cons_append, Te.nd.go, ih]; omega
theorem Te.rk_snoc (l : List Te) (x : Te) : Te.rk.go (l ++ [x]) = max (Te.rk.go l) x.rk := by
  induction l with
  | nil => simp [Te.rk.go]
  | cons y t ih => simp only [List.cons_append, Te.rk.go, ih]; omega
theorem Ex.rk_go_le {l : List Ex} {b : Nat} (h : ∀ e ∈ l, e.rk ≤ b) : Ex.rk.go l ≤ b := by
  induction l with
  | nil => simp [Ex.rk.go]
  | cons y t ih =>
    simp only [Ex.rk.go]
    have h1 := h y (by simp)
    have h2 := ih (fun e he => h e (by simp [he]))
    omega
theorem Te.rk_go_le {l : List Te} {b : Nat} (h : ∀ e ∈ l, e.rk ≤ b) : Te.rk.go l ≤ b := by
  induction l with
  | nil => simp [Te.rk.go]
  | cons y t ih =>
    simp only [Te.rk.go]
    have h1 := h y (by simp)
    have h2 := ih (fun e he => h e (by simp [he]))
    omega
theorem Ex.nd_pos' (e : Ex) : 1 ≤ e.nd := by cases e; simp only [Ex.nd]; omega
theorem Te.nd_pos' (e : Te) : 1 ≤ e.nd := by cases e; simp only [Te.nd]; omega
theorem max_if (a b : Int) : (if a < b then b else a) = max a b := by split <;> omega
theorem Cnt.push {args : List Ex} {x : Ex} {N D : Int} (h : Cnt args.length (1 + Ex.nd.go args) (1 + Ex.rk.go args) N D) (hr : x.rk < 1000) :
    Cnt (args ++ [x]).length (1 + Ex.nd.go (args ++ [x])) (1 + Ex.rk.go (args ++ [x])) (N + ndI x.nd) (if D < rkI x.nd x.rk + 1 then rkI x.nd x.rk + 1 else D) := by
  have h1 := h.step x.nd_pos' hr
  rw [max_if, Ex.nd_snoc, Ex.rk_snoc, List.length_append]
  rw [show 1 + (Ex.nd.go args + x.nd) = 1 + Ex.nd.go args + x.nd by omega, show 1 + max (Ex.rk.go args) x.rk = max (1 + Ex.rk.go args) (x.rk + 1) by omega]
  exact h1
/-- A term's: its expressions first, then its terms. -/
def Te.nds (xs : List Ex) (ts : List Te) : Nat := 1 + Ex.nd.go xs + Te.nd.go ts
def Te.rks (xs : List Ex) (ts : List Te) : Nat := 1 + max (Ex.rk.go xs) (Te.rk.go ts)
theorem Cnt.pushX {xs : List Ex} {x : Ex} {k : Nat} {N D : Int} (h : Cnt k (Te.nds xs []) (Te.rks xs []) N D) (hr : x.rk < 1000) :
    Cnt (k + 1) (Te.nds (xs ++ [x]) []) (Te.rks (xs ++ [x]) []) (N + ndI x.nd) (if D < rkI x.nd x.rk + 1 then rkI x.nd x.rk + 1 else D) := by
  have h1 := h.step x.nd_pos' hr
  unfold Te.nds Te.rks at *
  rw [max_if, Ex.nd_snoc, Ex.rk_snoc]
  simp only [Te.nd.go, Te.rk.go] at *
  rw [show 1 + (Ex.nd.go xs + x.nd) + 0 = 1 + Ex.nd.go xs + 0 + x.nd by omega, show 1 + max (max (Ex.rk.go xs) x.rk) 0 = max (1 + max (Ex.rk.go xs) 0) (x.rk + 1) by omega]
  exact h1
theorem Cnt.pushT {xs : List Ex} {ts : List Te} {x : Te} {k : Nat} {N D : Int} (h : Cnt k (Te.nds xs ts) (Te.rks xs ts) N D) (hr : x.rk < 1000) :
    Cnt (k + 1) (Te.nds xs (ts ++ [x])) (Te.rks xs (ts ++ [x])) (N + ndI x.nd) (if D < rkI x.nd x.rk + 1 then rkI x.nd x.rk + 1 else D) := by
  have h1 := h.step x.nd_pos' hr
  unfold Te.nds Te.rks at *
  rw [max_if, Te.nd_snoc, Te.rk_snoc]
  rw [show 1 + Ex.nd.go xs + (Te.nd.go ts + x.nd) = 1 + Ex.nd.go xs + Te.nd.go ts + x.nd by omega, show 1 + max (Ex.rk.go xs) (max (Te.rk.go ts) x.rk) = max (1 + max (Ex.rk.go xs) (Te.rk.go ts)) (x.rk + 1) by omega]
  exact h1
/-- The nodes that come in. -/
structure Lf where
  op : Int
  n : Int
  nm : ByteArray
  kids : List Int
structure Kn where
  op : Int
  nm : ByteArray
  exprs : List Int
  terms : List Int
def lfK : Elt Lf where
  sz := 4
  pos := by decide
  R := fun w X x cs => ∃ a cap, cs = [.int .i64 x.op, .int .i64 x.n, .string x.nm, .slice a x.kids.length cap] ∧ I64 x.op ∧ I64 x.n ∧ x.nm.size ≤ 9223372036854775807 ∧ SlR i64K w X x.kids a x.kids.length cap
  kept := fun h k => by obtain ⟨a, cap, rfl, h1, h2, h3, h4⟩ := h; exact ⟨a, cap, rfl, h1, h2, h3, h4.kept k⟩
  less := fun h k => by obtain ⟨a, cap, rfl, h1, h2, h3, h4⟩ := h; exact ⟨a, cap, rfl, h1, h2, h3, h4.less k⟩
  one := fun h => by obtain ⟨a, cap, rfl, h1, h2, h3, h4⟩ := h; exact ⟨rfl, by simp [Value.oneCell']⟩
def knK : Elt Kn where
  sz := 4
  pos := by decide
  R := fun w X x cs => ∃ a cap a' cap', cs = [.int .i64 x.op, .string x.nm, .slice a x.exprs.length cap, .slice a' x.terms.length cap'] ∧ I64 x.op ∧ x.nm.size ≤ 9223372036854775807 ∧ SlR i64K w X x.exprs a x.exprs.length cap ∧ SlR i64K w X x.terms a' x.terms.length cap'
  kept := fun h k => by obtain ⟨a, cap, a', cap', rfl, h1, h2, h3, h4⟩ := h; exact ⟨a, cap, a', cap', rfl, h1, h2, h3.kept k, h4.kept k⟩
  less := fun h k => by obtain ⟨a, cap, a', cap', rfl, h1, h2, h3, h4⟩ := h; exact ⟨a, cap, a', cap', rfl, h1, h2, h3.less k, h4.less k⟩
  one := fun h => by obtain ⟨a, cap, a', cap', rfl, h1, h2, h3, h4⟩ := h; exact ⟨rfl, by simp [Value.oneCell']⟩
def nds (es : List Ex) : List Int := es.map fun e => ndI e.nd
def rks (es : List Ex) : List Int := es.map fun e => rkI e.nd e.rk
def ndsT (ts : List Te) : List Int := ts.map fun e => ndI e.nd
def rksT (ts : List Te) : List Int := ts.map fun e => rkI e.nd e.rk
/-- The j-th element of a slice that grows: its cells, clear of all that is written. -/
theorem Sep.elt {α : Type} {K : Elt α} {e : TypeId} {base : Nat} {w : World} {fam : List Ob} {l : List α} {v : Value} (h : Sep w fam) (i : Nat) (hi : fam[i]? = some (gr K e base l v)) (j : Nat) (hj : j < l.length) :
    ∃ g cap x cs, v = .slice (some ⟨g, 0, none⟩) l.length cap ∧ l.length ≤ cap ∧ l[j]? = some x ∧ K.R w (owns fam) x cs ∧ cs.length = K.sz ∧ ∀ m c, m < K.sz → cs[m]? = some c → w.cell? ⟨g, j * K.sz + m, none⟩ = some c := by
  obtain ⟨csl, hG⟩ := h.at i hi
  obtain ⟨g, cap, rfl, hg0, hg1, hg2, hob⟩ := own_form hG.own (by omega)
  have hx : l[j]? = some (l[j]'hj) := List.getElem?_eq_getElem hj
  have hc : csl[j]? = some (csl[j]'(by rw [hG.count]; exact hj)) := List.getElem?_eq_getElem (by rw [hG.count]; exact hj)
  have hR := hG.elts j _ _ hx hc
  refine ⟨g, cap, _, _, rfl, hg2, hx, K.less hR (fun b _ hm => ?_), (K.one hR).1, fun m c hm hcm => ?_⟩
  · obtain ⟨q, o, hq, hb⟩ := mem_owns.1 hm
    by_cases hqi : q = i
    · subst hqi
      rw [hi] at hq
      injection hq with hq
      subst hq
      have hb' : b ∈ (Value.slice (some ⟨g, 0, none⟩) l.length cap).ownBlock.toList := hb
      rw [Option.mem_toList] at hb'
      exact busy_mem.2 (.inl hb')
    · exact busy_mem.2 (.inr (mem_others.2 ⟨q, o, hqi, hq, hb⟩))
  · rw [hG.own.cellAt (j * K.sz + m) (by calc j * K.sz + m < j * K.sz + K.sz := by omega
                                              _ = (j + 1) * K.sz := by rw [Nat.add_mul]; omega
                                              _ ≤ l.length * K.sz := Nat.mul_le_mul_right _ (by omega)), flat_get K.sz csl hG.len4 j m _ hc hm]
    exact hcm
/-- What a slice that grows is, as a value. -/
theorem Sep.form {α : Type} {K : Elt α} {e : TypeId} {base : Nat} {w : World} {fam : List Ob} {l : List α} {v : Value} (h : Sep w fam) (i : Nat) (hi : fam[i]? = some (gr K e base l v)) : ∃ a cap, v = .slice a l.length cap := by
  obtain ⟨a, cap, hv, _⟩ := h.still i hi
  exact ⟨a, cap, hv⟩
end Go.Proofs.Ytgbiimoednmlgaa

/- What came in, opened: slices of ints, of strings, of structs of such. -/
namespace Go.Proofs.Ytgbiimoednmlgaa
set_option linter.unusedVariables false
set_option linter.unusedSimpArgs false
open Go.ChangeShapes Go.WideShapes Go.ChangeAt Go.RowKit Go.Deep
def Opens {α : Type} (P : Program) (e : TypeId) (K : Elt α) : Prop :=
  ∀ (H : Type) (enc : TypeId × Value → H) (W : World) (fuel : Nat) (cs : List Value) (x : DataW H × List MemPlace), DataW.trod enc P W 0 (fun _ => true) true fuel e cs = some x → ∃ d, K.R W [] d cs
theorem i64_of {n : Int} (h : (Lit.int .i64 n).wf = true) : I64 n := by
  simp [Lit.wf, IntKind.min, IntKind.max, IntKind.signed, IntKind.bits] at h
  unfold I64
  omega
theorem opens_int {P : Program} {t : TypeId} (ht : P.underlying t = some (.int .i64)) : Opens P t i64K := by
  intro H enc W fuel cs x h
  obtain ⟨n, rfl, _, hw⟩ := DataW.trod_int ht h
  exact ⟨n, rfl, i64_of hw⟩
theorem pick_all {α : Type} {Q : Nat → α → List Value → Prop} : ∀ (len : Nat), (∀ i, i < len → ∃ d c, Q i d c) → ∃ (l : List α) (vs : List (List Value)), l.length = len ∧ vs.length = len ∧ ∀ i d c, l[i]? = some d → vs[i]? = some c → Q i d c := by
  intro len
  induction len with
  | zero => intro _; exact ⟨[], [], rfl, rfl, fun i d c h _ => by simp at h⟩
  | succ n ih =>
    intro h
    obtain ⟨l, vs, h1, h2, h3⟩ := ih (fun i hi => h i (by omega))
    obtain ⟨d, c, hq⟩ := h n (by omega)
    refine ⟨l ++ [d], vs ++ [c], by simp [h1], by simp [h2], fun i d' c' hd hc => ?_⟩
    rcases Nat.lt_or_ge i n with hi | hi
    · rw [List.getElem?_append_left (by omega)] at hd hc
      exact h3 i d' c' hd hc
    · have hin : i = n := by
        have := (List.getElem?_eq_some_iff.1 hd).1; simp at this; omega
      subst hin
      rw [List.getElem?_append_right (by omega), h1, Nat.sub_self] at hd
      rw [List.getElem?_append_right (by omega), h2, Nat.sub_self] at hc
      injection hd with hd; injection hc with hc
      subst hd; subst hc
      exact hq
theorem opens_slice {α : Type} {K : Elt α} {P : Program} {t e : TypeId} (ht : P.underlying t = some (.slice e)) (hK : P.cellsOf e = K.sz) (he : Opens P e K) {H : Type} {enc : TypeId × Value → H} {W : World} {fuel : Nat} {cs : List Value} {x : DataW H × List MemPlace}
    (h : DataW.trod enc P W 0 (fun _ => true) true fuel t cs = some x) : ∃ a len cap l, cs = [.slice a len cap] ∧ SlR K W [] l a len cap := by
  rcases open_slice ht h with ⟨rfl, _⟩ | ⟨a, len, cap, m, n, D, Pl, rfl, _, hl, hm, hmm, _, hi⟩
  · exact ⟨none, 0, 0, [], rfl, SlR.nil K W []⟩
  · have hmx : cap ≤ 9223372036854775807 := by
      have : maxLen = 9223372036854775807 := by decide
      omega
    rw [if_pos rfl] at hmm
    obtain ⟨l, vs, h1, h2, h3⟩ := pick_all (Q := fun i d c => K.R W [] d c ∧ c.length = K.sz ∧ ∀ j u, c[j]? = some u → W.cell? (a.add (i * K.sz + j)) = some u) len (fun i hi' => by
      obtain ⟨c, hc, ht'⟩ := hi i (by omega)
      obtain ⟨d, hd⟩ := he H enc W n c _ ht'
      obtain ⟨_, hcl, hat⟩ := World.cells?_some hc
      rw [hK] at hcl hat
      refine ⟨d, c, hd, hcl, fun j u hj => ?_⟩
      have hjs : j < K.sz := by rw [← hcl]; exact (List.getElem?_eq_some_iff.1 hj).1
      rw [← Go.Deep.add_add, hat j hjs]
      exact hj)
    refine ⟨some a, len, cap, l, rfl, vs, by rw [h1, h2], fun i d c hd hc => (h3 i d c hd hc).1, h2, hl, hmx, fun hp => ?_⟩
    have hv0 : vs[0]? = some (vs[0]'(by omega)) := List.getElem?_eq_getElem (by omega)
    have hl0 : l[0]? = some (l[0]'(by omega)) := List.getElem?_eq_getElem (by omega)
    obtain ⟨_, hlen0, hcell0⟩ := h3 0 _ _ hl0 hv0
    have hK0 := K.pos
    have hz := hcell0 0 _ (List.getElem?_eq_getElem (by omega))
    obtain ⟨b, off, spot⟩ := a
    obtain rfl : spot = none := by simpa [Addr.add] using World.cell?_spot hz
    have hblt := cell_lt hz
    rw [show (⟨b, off, none⟩ : Addr).add (0 * K.sz + 0) = ⟨b, off + (0 * K.sz + 0), none⟩ from Mem.add_off _ _ _] at hblt
    refine ⟨b, off, rfl, hblt, List.not_mem_nil, fun i c hc => ?_⟩
    have hlt : i < l.length := by rw [h1, ← h2]; exact (List.getElem?_eq_some_iff.1 hc).1
    obtain ⟨_, g2, g3⟩ := h3 i _ c (List.getElem?_eq_getElem hlt) hc
    refine ⟨g2, fun j u hj => ?_⟩
    have := g3 j u hj
    rw [Mem.add_off, ← Nat.add_assoc] at this
    exact this
/-- A struct of one-cell fields: each field's cell. -/
theorem opens_struct {P : Program} {e : TypeId} {fs : Array Field} (he : P.underlying e = some (.struct fs)) (hone : oneCellFields P fs = true) (hC : P.cellsOf e = fs.size) {H : Type} {enc : TypeId × Value → H} {W : World} {fuel : Nat} {cs : List Value} {x : DataW H × List MemPlace}
    (h : DataW.trod enc P W 0 (fun _ => true) true fuel e cs = some x) : cs.length = fs.size ∧ ∀ (j : Nat) (f : Field), fs[j]? = some f → ∃ v n y, cs[j]? = some v ∧ DataW.trod enc P W 0 (fun _ => true) true n f.type [v] = some y := by
  obtain ⟨ys, n', hn', hy, hlen, hyl, hf⟩ := DataW.trod_struct he h
  refine ⟨by rw [hlen, hC], fun j f hj => ?_⟩
  obtain ⟨ho, hk⟩ := hone_of hone j f hj
  have hjl : j < fs.size := (Array.getElem?_eq_some_iff.1 hj).1
  have hv : cs[j]? = some (cs[j]'(by omega)) := List.getElem?_eq_getElem (by omega)
  have h1 := hf j f hj
  rw [ho, hk] at h1
  have hone' : (cs.drop j).take 1 = [cs[j]'(by omega)] := by
    rw [List.drop_eq_getElem_cons (by omega)]
    rfl
  rw [hone'] at h1
  have hys : ys[j]? = some (ys[j]'(by omega)) := List.getElem?_eq_getElem (by omega)
  exact ⟨_, _, _, hv, h1.trans hys⟩
theorem four_list {α : Type} {cs : List α} (h : cs.length = 4) {a b c d : α} (h0 : cs[0]? = some a) (h1 : cs[1]? = some b) (h2 : cs[2]? = some c) (h3 : cs[3]? = some d) : cs = [a, b, c, d] := by
  match cs, h with
  | [p, q, r, s], _ => simp at h0 h1 h2 h3; subst h0; subst h1; subst h2; subst h3; rfl
end Go.Proofs.Ytgbiimoednmlgaa

/- What came in, opened: accounts, moves. -/
namespace Go.Proofs.Ytgbiimoednmlgaa
set_option linter.unusedVariables false
set_option linter.unusedSimpArgs false
open Go.ChangeShapes Go.WideShapes Go.ChangeAt Go.RowKit Go.Deep
theorem three_list {α : Type} {cs : List α} (h : cs.length = 3) {a b c : α} (h0 : cs[0]? = some a) (h1 : cs[1]? = some b) (h2 : cs[2]? = some c) : cs = [a, b, c] := by
  match cs, h with
  | [p, q, r], _ => simp at h0 h1 h2; subst h0; subst h1; subst h2; rfl
theorem opens_acct : Opens Try.prog 58 acctK := by
  intro H enc W fuel cs x h
  obtain ⟨hl, hf⟩ := opens_struct Try.underlying58 (by kernel_rfl) (by kernel_rfl) h
  obtain ⟨v0, n0, y0, c0, t0⟩ := hf 0 _ rfl
  obtain ⟨v1, n1, y1, c1, t1⟩ := hf 1 _ rfl
  obtain ⟨v2, n2, y2, c2, t2⟩ := hf 2 _ rfl
  obtain ⟨a0, e0, _, w0⟩ := DataW.trod_string Try.underlying9 t0
  obtain ⟨a1, e1, _, w1⟩ := DataW.trod_string Try.underlying9 t1
  obtain ⟨a2, e2, _, w2⟩ := DataW.trod_int (k := .i64) Try.underlying2 t2
  injection e0 with e0; injection e1 with e1; injection e2 with e2
  subst e0; subst e1; subst e2
  exact ⟨⟨a0, a1, a2⟩, three_list hl c0 c1 c2, ⟨w0, w1, i64_of w2⟩⟩
theorem opens_mv : Opens Try.prog 40 mvK := by
  intro H enc W fuel cs x h
  obtain ⟨hl, hf⟩ := opens_struct Try.underlying40 (by kernel_rfl) (by kernel_rfl) h
  obtain ⟨v0, n0, y0, c0, t0⟩ := hf 0 _ rfl
  obtain ⟨v1, n1, y1, c1, t1⟩ := hf 1 _ rfl
  obtain ⟨v2, n2, y2, c2, t2⟩ := hf 2 _ rfl
  obtain ⟨v3, n3, y3, c3, t3⟩ := hf 3 _ rfl
  obtain ⟨a0, e0, _, w0⟩ := DataW.trod_string Try.underlying9 t0
  obtain ⟨a1, e1, _, w1⟩ := DataW.trod_string Try.underlying9 t1
  obtain ⟨a2, e2, _, w2⟩ := DataW.trod_string Try.underlying9 t2
  obtain ⟨a3, e3, _, w3⟩ := DataW.trod_int (k := .i64) Try.underlying2 t3
  injection e0 with e0; injection e1 with e1; injection e2 with e2; injection e3 with e3
  subst e0; subst e1; subst e2; subst e3
  exact ⟨⟨a0, a1, a2, a3⟩, four_list hl c0 c1 c2 c3, ⟨w0, w1, w2, i64_of w3⟩⟩
theorem accts_of {H : Type} {enc : TypeId × Value → H} {W : World} {a : Option Addr} {len cap : Nat} {x : DataW H × List MemPlace} (k : ∃ fuel, DataW.trod enc Try.prog W 0 (fun _ => true) true fuel 22 (Value.cells (.slice a len cap)).toList = some x) : ∃ l, SlR acctK W [] l a len cap := by
  obtain ⟨fuel, hf⟩ := k
  obtain ⟨a', len', cap', l, e, hS⟩ := opens_slice (K := acctK) Try.underlying22 (by kernel_rfl) opens_acct hf
  have e' : (Value.slice a len cap) = .slice a' len' cap' := by
    have := List.head_eq_of_cons_eq e
    exact this
  injection e' with h1 h2 h3
  subst h1; subst h2; subst h3
  exact ⟨l, hS⟩
theorem mvs_of {H : Type} {enc : TypeId × Value → H} {W : World} {a : Option Addr} {len cap : Nat} {x : DataW H × List MemPlace} (k : ∃ fuel, DataW.trod enc Try.prog W 0 (fun _ => true) true fuel 23 (Value.cells (.slice a len cap)).toList = some x) : ∃ l, SlR mvK W [] l a len cap := by
  obtain ⟨fuel, hf⟩ := k
  obtain ⟨a', len', cap', l, e, hS⟩ := opens_slice (K := mvK) Try.underlying23 (by kernel_rfl) opens_mv hf
  have e' : (Value.slice a len cap) = .slice a' len' cap' := by
    have := List.head_eq_of_cons_eq e
    exact this
  injection e' with h1 h2 h3
  subst h1; subst h2; subst h3
  exact ⟨l, hS⟩
end Go.Proofs.Ytgbiimoednmlgaa
