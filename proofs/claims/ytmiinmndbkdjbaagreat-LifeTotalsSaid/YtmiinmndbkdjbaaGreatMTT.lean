/- A part of the proof: BgA, BgB, BgC, BgD, BgE, BgF, BgH, BgG, BgM, BgS, one behind another. -/
import Derived.Test.YtmiinmndbkdjbaaGreatMTA
import Derived.Test.YtmiinmndbkdjbaaGreatMTB
import Derived.Test.YtmiinmndbkdjbaaGreatMTC
import Derived.Test.YtmiinmndbkdjbaaGreatMTD
import Derived.Test.YtmiinmndbkdjbaaGreatMTE
import Derived.Test.YtmiinmndbkdjbaaGreatMTF
import Derived.Test.YtmiinmndbkdjbaaGreatMTG
import Derived.Test.YtmiinmndbkdjbaaGreatMTH
import Derived.Test.YtmiinmndbkdjbaaGreatMTI
import Derived.Test.YtmiinmndbkdjbaaGreatMTJ
import Derived.Test.YtmiinmndbkdjbaaGreatMTK
import Derived.Test.YtmiinmndbkdjbaaGreatMTL
import Derived.Test.YtmiinmndbkdjbaaGreatMTM
import Derived.Test.YtmiinmndbkdjbaaGreatMTN
import Derived.Test.YtmiinmndbkdjbaaGreatMTO
import Derived.Test.YtmiinmndbkdjbaaGreatMTQ
import Derived.Test.YtmiinmndbkdjbaaGreatMTR
import Derived.Test.YtmiinmndbkdjbaaGreatMTS
import Derived.WalkSmall
import Derived.BigQuiet
import Derived.Deep.AppendLies
import Derived.StillTailTactics
import Derived.Deep.RegionHeld3
import Derived.OpenShut
/- Contracts over slices of digits: trim, cmp. -/
namespace Go.Proofs.YtmiinmndbkdjbaaGreat
set_option linter.unusedVariables false
set_option linter.unusedSimpArgs false
open Go.RowKit
theorem ret_int {k : IntKind} {a b : Int} (h : a = b) : Ending.returned (.int k a) = .returned (.int k b) := by rw [h]
/-- A slice of digits: its elements are l. -/
def Nums (w : World) (a : Option Addr) (len cap : Nat) (l : List Nat) : Prop :=
  l.length = len ∧ len ≤ cap ∧ cap ≤ 9223372036854775807 ∧ (0 < len → ∃ b o, a = some ⟨b, o, none⟩ ∧ b < w.heap.size ∧ ∀ i x, l[i]? = some x → w.cell? ⟨b, o + i, none⟩ = some (.int .u64 (x : Nat)))
theorem Nums.below {w w' : World} {a : Option Addr} {len cap : Nat} {l : List Nat} (h : Nums w a len cap l) (hb : Below w.heap.size w w') : Nums w' a len cap l := by
  obtain ⟨h1, h2, h2', h3⟩ := h
  refine ⟨h1, h2, h2', fun hl => ?_⟩
  obtain ⟨b, o, ha, hlt, hc⟩ := h3 hl
  exact ⟨b, o, ha, Nat.lt_of_lt_of_le hlt hb.size, fun i x hx => (hb.cell (p := ⟨b, o + i, none⟩) hlt).trans (hc i x hx)⟩
theorem Nums.take {w : World} {a : Option Addr} {len cap : Nat} {l : List Nat} (h : Nums w a len cap l) (k : Nat) (hk : k ≤ len) : Nums w a k cap (l.take k) := by
  obtain ⟨h1, h2, h2', h3⟩ := h
  refine ⟨by simp; omega, by omega, h2', fun hl => ?_⟩
  obtain ⟨b, o, ha, hlt, hc⟩ := h3 (by omega)
  refine ⟨b, o, ha, hlt, fun i x hx => hc i x ?_⟩
  rw [List.getElem?_take] at hx
  split at hx
  · exact hx
  · cases hx
theorem Nums.at {w : World} {a : Option Addr} {len cap : Nat} {l : List Nat} (h : Nums w a len cap l) (k : Nat) (hk : k < len) : ∃ b o, a = some ⟨b, o, none⟩ ∧ b < w.heap.size ∧ w.cell? ⟨b, o + k, none⟩ = some (.int .u64 (l.getD k 0 : Nat)) := by
  obtain ⟨h1, h2, h2', h3⟩ := h
  obtain ⟨b, o, ha, hlt, hc⟩ := h3 (by omega)
  refine ⟨b, o, ha, hlt, ?_⟩
  rw [hc k (l.getD k 0) (by rw [List.getD_eq_getElem?_getD, List.getElem?_eq_getElem (by omega)]; rfl)]
theorem trim_len (l : List Nat) : Big.trim l = l.take (Big.trim l).length := by
  unfold Big.trim
  have h := List.dropWhile_suffix (fun x : Nat => x == 0) (l := l.reverse)
  have h2 : (l.reverse.dropWhile (· == 0)).reverse <+: l := by
    have := List.reverse_prefix.2 h
    rwa [List.reverse_reverse] at this
  exact List.prefix_iff_eq_take.1 h2
theorem trim_le (l : List Nat) : (Big.trim l).length ≤ l.length := by
  rw [trim_len l, List.length_take]; exact Nat.min_le_right _ _
def lenOf : Value → Nat | .slice _ n _ => n | _ => 0
set_option maxRecDepth 100000 in
set_option maxHeartbeats 400000 in
theorem trim_any (a : Option Addr) (len cap : Nat) (l : List Nat) (w : World) (hl : Nums w a len cap l) :
    Calls Tryz.prog 76 #[.slice a len cap] w fun e w' => e = .returned (.slice a (Big.trim l).length cap) ∧ w = w' := by
  have HL := Lib.hid hl
  have h1 := hl.1
  have h2 := hl.2.1
  have h3 := hl.2.2.1
  have H1 := Lib.hid h1
  clear hl h1
  go_enter Tryz.func76, Tryz.ntmps76
  go_wp2_with fail
  go_loop [0] (fun i => ∃ k : Nat, i = .slice a k cap ∧ k ≤ len ∧ Hid (Big.trim l = Big.trim (l.take k))) (fun i => lenOf i)
  case atStart => exact ⟨len, rfl, Nat.le_refl _, by show _ = _; rw [List.take_of_length_le (by rw [H1.out]; exact Nat.le_refl _)]⟩
  case round =>
    obtain ⟨k, rfl, hk, HX⟩ := hrel
    cases k with
    | zero =>
      have FIN : Hid ((Big.trim l).length = 0) := by show _ = _; rw [HX.out]; rfl
      go_wp2
      go_ret
      rw [FIN.out]; exact ⟨rfl, rfl⟩
    | succ j =>
      obtain ⟨b, o, rfl, hb, hc⟩ := HL.out.at j (by omega)
      have hj : j < l.length := by rw [H1.out]; omega
      have T0 := Lib.hid (Big.trim_take_succ l j hj)
      have T1 := Lib.hid (Big.trim_take_stop l j hj)
      clear hj
      generalize l.getD j 0 = x at *
      by_cases hx : x = 0
      · have HN : Hid (Big.trim l = Big.trim (l.take j)) := by show _ = _; rw [HX.out, T0.out hx]
        subst hx
        go_wp2
        go_round
        case rel => exact ⟨j, by go_num, by omega, HN⟩
        case measure => simp [lenOf]
      · have hx2 : ((x : Int) == 0) = false := by simp [hx]
        have FIN : Hid ((Big.trim l).length = j + 1) := by
          show _ = _
          rw [HX.out, T1.out hx, List.length_take, H1.out]; omega
        clear hx
        go_wp2
        go_ret
        rw [FIN.out]; exact ⟨rfl, rfl⟩
end Go.Proofs.YtmiinmndbkdjbaaGreat

namespace Go.Proofs.YtmiinmndbkdjbaaGreat
set_option linter.unusedVariables false
set_option linter.unusedSimpArgs false
open Go.RowKit
def cmpI (a b : List Nat) : Int := if Big.val a < Big.val b then -1 else if Big.val a = Big.val b then 0 else 1
theorem cmp_bel (w : World) (n : Nat) : Below w.heap.size w (w.drewN n) := below_drewN (Below.refl _ _) n
set_option maxRecDepth 100000 in
set_option maxHeartbeats 1000000 in
theorem cmp_any (a : Option Addr) (len cap : Nat) (l : List Nat) (a' : Option Addr) (len' cap' : Nat) (l' : List Nat) (w : World) (hl : Nums w a len cap l) (hl' : Nums w a' len' cap' l') (hn : Big.Norm l) (hn' : Big.Norm l') :
    Calls Tryz.prog 74 #[.slice a len cap, .slice a' len' cap'] w fun e w' => e = .returned (.int .i64 (cmpI l l')) ∧ Below w.heap.size w w' := by
  have HR := Lib.hid (fun (x : Int) (h : cmpI l l' = x) => (ret_int h.symm : Ending.returned (.int .i64 x) = .returned (.int .i64 (cmpI l l'))))
  have h2 := hl.2.1
  have h3 := hl.2.2.1
  have h2' := hl'.2.1
  have h3' := hl'.2.2.1
  have HL := Lib.hid hl
  have HL' := Lib.hid hl'
  rcases Nat.lt_trichotomy len len' with hlt | rfl | hlt
  · have FIN := Lib.hid (HR.out (-1) (by unfold cmpI; rw [if_pos (hn.length_lt_val hn' (by rw [hl.1, hl'.1]; exact hlt))]))
    have t1 : ((len : Int) == (len' : Int)) = false := by simp; omega
    clear hl hl' hn hn'
    go_enter Tryz.func74, Tryz.ntmps74
    go_wp2
    go_ret
    exact ⟨FIN.out, Below.refl _ _⟩
  · have HN := Lib.hid hn
    have HN' := Lib.hid hn'
    have HE := Lib.hid (show l.length = l'.length by rw [hl.1, hl'.1])
    have H1 := Lib.hid hl.1
    clear hl hl' hn hn'
    go_enter Tryz.func74, Tryz.ntmps74
    go_wp2_with fail
    go_loopw [5] (fun i wr => ∃ k : Nat, i = .int .i64 ((k : Int) - 1) ∧ k ≤ len ∧ Hid (l.drop k = l'.drop k) ∧ Below w.heap.size w wr) (fun i _ => (intOf i + 1).toNat)
    case atStart => exact ⟨len, rfl, Nat.le_refl _, by show _ = _; rw [List.drop_of_length_le (by rw [H1.out]; exact Nat.le_refl _), List.drop_of_length_le (by rw [← HE.out, H1.out]; exact Nat.le_refl _)], Below.refl _ _⟩
    case round =>
      obtain ⟨k, rfl, hk, HX, hbel⟩ := hrel
      cases k with
      | zero =>
        have FIN := Lib.hid (HR.out 0 (by
          have e : l = l' := by simpa using HX.out
          unfold cmpI; rw [e, if_neg (Nat.lt_irrefl _), if_pos rfl]))
        go_wp2
        go_ret
        exact ⟨FIN.out, hbel⟩
      | succ j =>
        obtain ⟨b, o, rfl, hb, hc⟩ := (HL.out.below hbel).at j (by omega)
        obtain ⟨b', o', rfl, hb', hc'⟩ := (HL'.out.below hbel).at j (by omega)
        have hj : j < l.length := by rw [H1.out]; omega
        have C1 := Lib.hid (Big.cmp_lt l l' j HN.out.1 HE.out hj HX.out)
        have C2 := Lib.hid (Big.cmp_lt l' l j HN'.out.1 HE.out.symm (by rw [← HE.out]; exact hj) HX.out.symm)
        have hd : Hid (l.getD j 0 = l'.getD j 0 → l.drop j = l'.drop j) := by
          show _ → _
          intro h
          have hj' : j < l'.length := by rw [← HE.out]; exact hj
          rw [List.drop_eq_getElem_cons hj, List.drop_eq_getElem_cons hj', HX.out]
          rw [List.getD_eq_getElem?_getD, List.getD_eq_getElem?_getD, List.getElem?_eq_getElem hj, List.getElem?_eq_getElem hj'] at h
          simp at h
          rw [h]
        clear hj
        generalize l.getD j 0 = x at *
        generalize l'.getD j 0 = y at *
        rcases Nat.lt_trichotomy x y with hxy | rfl | hxy
        · have FIN := Lib.hid (HR.out (-1) (by unfold cmpI; rw [if_pos (C1.out hxy)]))
          go_wp2_with fail
          go_quiet (fail)
          go_wp2
          go_ret
          exact ⟨FIN.out, below_drewN hbel _⟩
        · have HN2 := Lib.hid (hd.out rfl)
          go_wp2_with fail
          go_quiet (fail)
          go_wp2_with fail
          go_quiet (fail)
          go_wp2_with fail
          go_roundw
          case rel => exact ⟨j, by go_num, by omega, HN2, below_drewN hbel _⟩
          case measure => simp [intOf]
        · have FIN := Lib.hid (HR.out 1 (by unfold cmpI; have := C2.out hxy; rw [if_neg (by omega), if_neg (by omega)]))
          go_wp2_with fail
          go_quiet (fail)
          go_wp2_with fail
          go_quiet (fail)
          go_wp2
          go_ret
          exact ⟨FIN.out, below_drewN (below_drewN hbel _) _⟩
  · have hv := hn'.length_lt_val hn (by rw [hl.1, hl'.1]; exact hlt)
    have FIN := Lib.hid (HR.out 1 (by unfold cmpI; rw [if_neg (by omega), if_neg (by omega)]))
    have t1 : ((len : Int) == (len' : Int)) = false := by simp; omega
    clear hl hl' hn hn' hv
    go_enter Tryz.func74, Tryz.ntmps74
    go_wp2
    go_ret
    exact ⟨FIN.out, Below.refl _ _⟩
end Go.Proofs.YtmiinmndbkdjbaaGreat

namespace Go.Proofs.YtmiinmndbkdjbaaGreat
set_option linter.unusedVariables false
set_option linter.unusedSimpArgs false
open Go.RowKit
theorem infoU64 : (Tryz.prog.info? 141).map (fun i => (i.zero, i.size, i.bytes)) = some (some (.int .u64 0), 1, 8) := by kernel_rfl
def dv (l : List Nat) : List Value := l.map (fun d => Value.int .u64 (d : Nat))
theorem dv_one (l : List Nat) : ∀ u ∈ dv l, u.oneCell' = true := by intro u h; unfold dv at h; simp at h; obtain ⟨_, _, rfl⟩ := h; rfl
theorem dv_app (a b : List Nat) : dv a ++ dv b = dv (a ++ b) := by simp [dv]
theorem own_nums {w0 w : World} {v : Value} {n : Nat} {l : List Nat} (h : Mem.Own w0 w 141 1 v n (dv l)) (hn : l.length = n) : ∃ a cap, v = .slice a n cap ∧ Nums w a n cap l := by
  have hmx : maxLen = 9223372036854775807 := by decide
  rcases h.own.2 with ⟨rfl, rfl⟩ | ⟨g, cap, cur, rfl, h1, h2, h3, h4, h5, h6⟩
  · exact ⟨none, 0, rfl, hn, by omega, by omega, fun h => absurd h (by omega)⟩
  · refine ⟨_, cap, rfl, hn, h3, by omega, fun hp => ⟨g, 0, rfl, lt_of_block h2, fun i x hx => ?_⟩⟩
    have hi : i < l.length := (List.getElem?_eq_some_iff.1 hx).1
    rw [Nat.zero_add, h.cell i (by omega)]
    simp [dv, hx]
theorem digs_cells (w : World) (x : Nat) (z : Int) (hz : z = (x : Int)) : ∀ j u, (dv [x])[j]? = some u → (w.alloc (.cells #[.int .u64 z] 141)).cell? ((⟨w.heap.size, 0, none⟩ : Addr).add j) = some u := by
  subst hz; exact Mem.lit_cells w #[.int .u64 (x : Int)] 141
theorem getD_end (l : List Nat) (k : Nat) (h : l.length ≤ k) : l.getD k 0 = 0 := by
  rw [List.getD_eq_getElem?_getD, List.getElem?_eq_none h]; rfl
theorem mlen : maxLen = 9223372036854775807 := by decide
set_option maxRecDepth 100000 in
set_option maxHeartbeats 4000000 in
theorem sub_in (a : Option Addr) (len cap : Nat) (l : List Nat) (a' : Option Addr) (len' cap' : Nat) (l' : List Nat) (w : World) (hl : Nums w a len cap l) (hl' : Nums w a' len' cap' l') (hn : Big.Dig l) (hn' : Big.Dig l') (hm : len ≤ 1000000) (hlen : len' ≤ len) :
    Calls Tryz.prog 75 #[.slice a len cap, .slice a' len' cap'] w fun e w' => (∃ out b cap2, e = .returned (.slice b (Big.trim out).length cap2) ∧ Nums w' b (Big.trim out).length cap2 (Big.trim out) ∧ Big.Dig out ∧ Hid (∃ c, c ≤ 1 ∧ Big.val out + Big.val l' = Big.val l + c * Big.pw len) ∧ out.length = len) ∧ Below w.heap.size w w' := by
  have h2 := hl.2.1
  have h3 := hl.2.2.1
  have h2' := hl'.2.1
  have h3' := hl'.2.2.1
  have HL := Lib.hid hl
  have HL' := Lib.hid hl'
  have HD := Lib.hid hn
  have HD' := Lib.hid hn'
  have H1 := Lib.hid hl.1
  have H1' := Lib.hid hl'.1
  have HS := Lib.hid (fun out i borrow hb hl hinv => Big.sub_step out l l' i borrow hb hn hn' hl hinv)
  clear hl hl' hn hn'
  go_enter Tryz.func75, Tryz.ntmps75
  go_wp2_with fail
  go_loopw [5, 6, 7] (fun v c i wr => ∃ (k b : Nat) (out : List Nat), i = .int .i64 (k : Nat) ∧ c = .int .u64 (b : Nat) ∧ k ≤ len ∧ b ≤ 1 ∧ Hid (Mem.Own w wr 141 1 v k (dv out)) ∧ Hid (out.length = k) ∧ Hid (Big.Dig out) ∧ Hid (Big.val out + Big.val (l'.take k) = Big.val (l.take k) + b * Big.pw k)) (fun _ _ i _ => len - (intOf i).toNat)
  case atStart => exact ⟨0, 0, [], rfl, rfl, Nat.zero_le _, by omega, Mem.Own.nil (Below.refl _ _), rfl, Big.Dig.nil, by show _ = _; simp [Big.val]⟩
  case round =>
    obtain ⟨k, b, out, rfl, rfl, hk, hb, HO, HK, HG, HI⟩ := hrel
    have hbel := HO.out.below
    by_cases hlt : k < len
    · obtain ⟨bb, o, rfl, hbb, hc⟩ := (HL.out.below hbel).at k hlt
      have hx := HD.out.getD k
      have HS2 := Lib.hid (HS.out out k b hb HK.out HI.out)
      have hD : Hid (Big.Dig (out ++ [(65536 + l.getD k 0 - b - l'.getD k 0) % 65536])) := by
        refine HG.out.append ?_
        intro d hd; simp at hd; subst hd; exact Nat.mod_lt _ (by decide)
      have hy := HD'.out.getD k
      by_cases hlt' : k < len'
      · obtain ⟨bb', o', rfl, hbb', hc'⟩ := (HL'.out.below hbel).at k hlt'
        clear HS HD HD'
        generalize l.getD k 0 = x at *
        generalize l'.getD k 0 = y at *
        go_wp2_with (at_builtin; refine Mem.ap infoU64 Tryz.underlying120 rfl (by decide) rfl (.tmp 32) (.tmp 35) rfl rfl (HO.out.alloc _) ⟨wr.heap.size, 0, none⟩ 1 1 (dv [(65536 + x - b - y) % 65536]) rfl rfl (digs_cells _ _ _ (by omega)) (dv_one _) (by rw [mlen]; omega) (by omega) ?_; intro v' w' o' _ _ _; rw [dv_app] at o')
        go_roundw
        case rel => exact ⟨k + 1, 1 - (65536 + x - b - y) / 65536, out ++ [(65536 + x - b - y) % 65536], by go_num, by congr 1; omega, by omega, by omega, o', by show _ = _; rw [List.length_append, HK.out]; rfl, hD, HS2.out⟩
        case measure => simp [intOf]; omega
      · have e0 := getD_end l' k (by rw [H1'.out]; omega)
        rw [e0] at HS2 hD
        clear HS HD HD' e0 hy
        generalize l.getD k 0 = x at *
        go_wp2_with (at_builtin; refine Mem.ap infoU64 Tryz.underlying120 rfl (by decide) rfl (.tmp 32) (.tmp 35) rfl rfl (HO.out.alloc _) ⟨wr.heap.size, 0, none⟩ 1 1 (dv [(65536 + x - b - 0) % 65536]) rfl rfl (digs_cells _ _ _ (by omega)) (dv_one _) (by rw [mlen]; omega) (by omega) ?_; intro v' w' o' _ _ _; rw [dv_app] at o')
        go_roundw
        case rel => exact ⟨k + 1, 1 - (65536 + x - b - 0) / 65536, out ++ [(65536 + x - b - 0) % 65536], by go_num, by congr 1; omega, by omega, by omega, o', by show _ = _; rw [List.length_append, HK.out]; rfl, hD, HS2.out⟩
        case measure => simp [intOf]; omega
    · have FIN : Hid (∃ c, c ≤ 1 ∧ Big.val out + Big.val l' = Big.val l + c * Big.pw len) := by
        have : k = len := by omega
        subst this
        refine ⟨b, hb, ?_⟩
        have h := HI.out
        rw [List.take_of_length_le (by rw [H1'.out]; exact hlen), List.take_of_length_le (by rw [H1.out]; exact Nat.le_refl _)] at h
        exact h
      obtain ⟨ao, co, rfl, hno⟩ := own_nums HO.out HK.out
      have HNO := Lib.hid hno
      have hke := Lib.hid (show k = len by omega)
      clear hno
      go_wp2_with fail
      refine (trim_any _ _ _ out _ HNO.out).mono ?_; rintro e w' ⟨rfl, rfl⟩
      go_wp2
      go_ret
      refine ⟨⟨out, _, _, rfl, ?_, HG.out, FIN, by rw [HK.out, hke.out]⟩, hbel⟩
      have := HNO.out.take (Big.trim out).length (by rw [← HK.out]; exact trim_le out)
      rw [← trim_len] at this
      exact this
end Go.Proofs.YtmiinmndbkdjbaaGreat

namespace Go.Proofs.YtmiinmndbkdjbaaGreat
set_option linter.unusedVariables false
set_option linter.unusedSimpArgs false
open Go.RowKit
set_option maxRecDepth 100000 in
set_option maxHeartbeats 4000000 in
theorem add_in (a : Option Addr) (len cap : Nat) (l : List Nat) (a' : Option Addr) (len' cap' : Nat) (l' : List Nat) (w : World) (hl : Nums w a len cap l) (hl' : Nums w a' len' cap' l') (hn : Big.Dig l) (hn' : Big.Dig l') (hm : len ≤ 1000000) (hm' : len' ≤ 1000000) :
    Calls Tryz.prog 73 #[.slice a len cap, .slice a' len' cap'] w fun e w' => (∃ out b cap2, e = .returned (.slice b (Big.trim out).length cap2) ∧ Nums w' b (Big.trim out).length cap2 (Big.trim out) ∧ Big.Dig out ∧ Hid (Big.val out = Big.val l + Big.val l') ∧ out.length ≤ 1000001) ∧ Below w.heap.size w w' := by
  have h2 := hl.2.1
  have h3 := hl.2.2.1
  have h2' := hl'.2.1
  have h3' := hl'.2.2.1
  have HL := Lib.hid hl
  have HL' := Lib.hid hl'
  have HD := Lib.hid hn
  have HD' := Lib.hid hn'
  have H1 := Lib.hid hl.1
  have H1' := Lib.hid hl'.1
  have HS := Lib.hid (fun out i carry hl hinv => Big.add_step out l l' i carry hl hinv)
  clear hl hl' hn hn'
  obtain ⟨mx, hmx, m1, m2⟩ : ∃ mx, mx ≤ 1000000 ∧ len ≤ mx ∧ len' ≤ mx := ⟨max len len', by omega, by omega, by omega⟩
  go_enter Tryz.func73, Tryz.ntmps73
  go_wp2_with fail
  go_loopw [5, 6, 7] (fun v c i wr => ∃ (k b : Nat) (out : List Nat), i = .int .i64 (k : Nat) ∧ c = .int .u64 (b : Nat) ∧ k ≤ mx + 1 ∧ b ≤ 1 ∧ (mx < k → b = 0) ∧ Hid (Mem.Own w wr 141 1 v k (dv out)) ∧ Hid (out.length = k) ∧ Hid (Big.Dig out) ∧ Hid (Big.val out + b * Big.pw k = Big.val (l.take k) + Big.val (l'.take k))) (fun _ _ i _ => mx + 1 - (intOf i).toNat)
  case atStart => exact ⟨0, 0, [], rfl, rfl, Nat.zero_le _, by omega, by omega, Mem.Own.nil (Below.refl _ _), rfl, Big.Dig.nil, by show _ = _; simp [Big.val]⟩
  case round =>
    obtain ⟨k, b, out, rfl, rfl, hk, hb, hbk, HO, HK, HG, HI⟩ := hrel
    have hbel := HO.out.below
    have hx := HD.out.getD k
    have hy := HD'.out.getD k
    have HS2 := Lib.hid (HS.out out k b HK.out HI.out)
    have hD : Hid (Big.Dig (out ++ [(b + l.getD k 0 + l'.getD k 0) % 65536])) := by
      refine HG.out.append ?_
      intro d hd; simp at hd; subst hd; exact Nat.mod_lt _ (by decide)
    by_cases hlt : k < len
    · obtain ⟨bb, o, rfl, hbb, hc⟩ := (HL.out.below hbel).at k hlt
      by_cases hlt' : k < len'
      · obtain ⟨bb', o', rfl, hbb', hc'⟩ := (HL'.out.below hbel).at k hlt'
        clear HS HD HD'
        generalize l.getD k 0 = x at *
        generalize l'.getD k 0 = y at *
        go_wp2_with (at_builtin; refine Mem.ap infoU64 Tryz.underlying120 rfl (by decide) rfl (.tmp 46) (.tmp 49) rfl rfl (HO.out.alloc _) ⟨wr.heap.size, 0, none⟩ 1 1 (dv [(b + x + y) % 65536]) rfl rfl (digs_cells _ _ _ (by omega)) (dv_one _) (by rw [mlen]; omega) (by omega) ?_; intro v' w' o' _ _ _; rw [dv_app] at o')
        go_roundw
        case rel => exact ⟨k + 1, (b + x + y) / 65536, out ++ [(b + x + y) % 65536], by go_num, by first | rfl | (congr 1; omega), by omega, by omega, by omega, o', by show _ = _; rw [List.length_append, HK.out]; rfl, hD, HS2.out⟩
        case measure => simp [intOf]; omega
      · have e0 := getD_end l' k (by rw [H1'.out]; omega)
        rw [e0] at HS2 hD
        clear HS HD HD' e0 hy
        generalize l.getD k 0 = x at *
        go_wp2_with (at_builtin; refine Mem.ap infoU64 Tryz.underlying120 rfl (by decide) rfl (.tmp 46) (.tmp 49) rfl rfl (HO.out.alloc _) ⟨wr.heap.size, 0, none⟩ 1 1 (dv [(b + x + 0) % 65536]) rfl rfl (digs_cells _ _ _ (by omega)) (dv_one _) (by rw [mlen]; omega) (by omega) ?_; intro v' w' o' _ _ _; rw [dv_app] at o')
        go_roundw
        case rel => exact ⟨k + 1, (b + x + 0) / 65536, out ++ [(b + x + 0) % 65536], by go_num, by first | rfl | (congr 1; omega), by omega, by omega, by omega, o', by show _ = _; rw [List.length_append, HK.out]; rfl, hD, HS2.out⟩
        case measure => simp [intOf]; omega
    · have e0 := getD_end l k (by rw [H1.out]; omega)
      rw [e0] at HS2 hD
      clear e0 hx
      by_cases hlt' : k < len'
      · obtain ⟨bb', o', rfl, hbb', hc'⟩ := (HL'.out.below hbel).at k hlt'
        clear HS HD HD'
        generalize l'.getD k 0 = y at *
        go_wp2_with (at_builtin; refine Mem.ap infoU64 Tryz.underlying120 rfl (by decide) rfl (.tmp 46) (.tmp 49) rfl rfl (HO.out.alloc _) ⟨wr.heap.size, 0, none⟩ 1 1 (dv [(b + 0 + y) % 65536]) rfl rfl (digs_cells _ _ _ (by omega)) (dv_one _) (by rw [mlen]; omega) (by omega) ?_; intro v' w' o' _ _ _; rw [dv_app] at o')
        go_roundw
        case rel => exact ⟨k + 1, (b + 0 + y) / 65536, out ++ [(b + 0 + y) % 65536], by go_num, by first | rfl | (congr 1; omega), by omega, by omega, by omega, o', by show _ = _; rw [List.length_append, HK.out]; rfl, hD, HS2.out⟩
        case measure => simp [intOf]; omega
      · have e0 := getD_end l' k (by rw [H1'.out]; omega)
        rw [e0] at HS2 hD
        clear HS HD HD' e0 hy
        by_cases hb1 : b = 1
        · subst hb1
          go_wp2_with (at_builtin; refine Mem.ap infoU64 Tryz.underlying120 rfl (by decide) rfl (.tmp 46) (.tmp 49) rfl rfl (HO.out.alloc _) ⟨wr.heap.size, 0, none⟩ 1 1 (dv [(1 + 0 + 0) % 65536]) rfl rfl (digs_cells _ _ _ (by omega)) (dv_one _) (by rw [mlen]; omega) (by omega) ?_; intro v' w' o' _ _ _; rw [dv_app] at o')
          go_roundw
          case rel => exact ⟨k + 1, (1 + 0 + 0) / 65536, out ++ [(1 + 0 + 0) % 65536], by go_num, by first | rfl | (congr 1; omega), by omega, by omega, by omega, o', by show _ = _; rw [List.length_append, HK.out]; rfl, hD, HS2.out⟩
          case measure => simp [intOf]; omega
        · obtain rfl : b = 0 := by omega
          have FIN : Hid (Big.val out = Big.val l + Big.val l') := by
            have h := HI.out
            rw [List.take_of_length_le (by rw [H1.out]; omega), List.take_of_length_le (by rw [H1'.out]; omega)] at h
            show _ = _
            omega
          obtain ⟨ao, co, rfl, hno⟩ := own_nums HO.out HK.out
          have HNO := Lib.hid hno
          clear hno
          go_wp2_with fail
          refine (trim_any _ _ _ out _ HNO.out).mono ?_; rintro e w' ⟨rfl, rfl⟩
          go_wp2
          go_ret
          refine ⟨⟨out, _, _, rfl, ?_, HG.out, FIN, by rw [HK.out]; omega⟩, hbel⟩
          have := HNO.out.take (Big.trim out).length (by rw [← HK.out]; exact trim_le out)
          rw [← trim_len] at this
          exact this
end Go.Proofs.YtmiinmndbkdjbaaGreat

namespace Go.Proofs.YtmiinmndbkdjbaaGreat
set_option linter.unusedVariables false
set_option linter.unusedSimpArgs false
open Go.RowKit
/-- A slice that reads as the digits of n. -/
def MagR (w : World) (v : Value) (n : Nat) : Prop := ∃ a len cap l, v = .slice a len cap ∧ Nums w a len cap l ∧ Big.Norm l ∧ Big.val l = n
/-- A number with its sign. -/
def sg (neg : Bool) (n : Nat) : Int := if neg then -(n : Int) else n
def BigR (w : World) (v : Value) (z : Int) : Prop := ∃ m, v = .agg #[.bool (decide (z < 0)), m] ∧ MagR w m z.natAbs
theorem MagR.below {w w' : World} {v : Value} {n : Nat} (h : MagR w v n) (hb : Below w.heap.size w w') : MagR w' v n := by
  obtain ⟨a, len, cap, l, rfl, h1, h2, h3⟩ := h
  exact ⟨a, len, cap, l, rfl, h1.below hb, h2, h3⟩
theorem BigR.below {w w' : World} {v : Value} {n : Int} (h : BigR w v n) (hb : Below w.heap.size w w') : BigR w' v n := by
  obtain ⟨m, rfl, h1⟩ := h
  exact ⟨m, rfl, h1.below hb⟩
theorem MagR.small {w : World} {a : Option Addr} {len cap : Nat} {l : List Nat} {k : Nat} (h : Nums w a len cap l) (hn : Big.Norm l) (hv : Big.val l < Big.pw k) : len ≤ k := by
  rw [← h.1]; exact hn.length_le hv
theorem MagR.trim {w : World} {b : Option Addr} {cap : Nat} {out : List Nat} (h : Nums w b (Big.trim out).length cap (Big.trim out)) (hd : Big.Dig out) : MagR w (.slice b (Big.trim out).length cap) (Big.val out) :=
  ⟨_, _, _, _, rfl, h, (Big.trim_spec out hd).1, (Big.trim_spec out hd).2.1⟩
theorem add_any (u v : Value) (m n : Nat) (w : World) (hu : MagR w u m) (hv : MagR w v n) (bm : m < Big.pw 1000000) (bn : n < Big.pw 1000000) :
    Calls Tryz.prog 73 #[u, v] w fun e w' => (∃ r, e = .returned r ∧ MagR w' r (m + n)) ∧ Below w.heap.size w w' := by
  obtain ⟨a, len, cap, l, rfl, h1, h2, rfl⟩ := hu
  obtain ⟨a', len', cap', l', rfl, h1', h2', rfl⟩ := hv
  refine (add_in a len cap l a' len' cap' l' w h1 h1' h2.1 h2'.1 (MagR.small h1 h2 bm) (MagR.small h1' h2' bn)).mono ?_
  rintro e w' ⟨⟨out, b, cap2, rfl, hn, hd, hv, _⟩, hb⟩
  exact ⟨⟨_, rfl, by rw [← hv.out]; exact MagR.trim hn hd⟩, hb⟩
theorem sub_any (u v : Value) (m n : Nat) (w : World) (hu : MagR w u m) (hv : MagR w v n) (bm : m < Big.pw 1000000) (hle : n ≤ m) :
    Calls Tryz.prog 75 #[u, v] w fun e w' => (∃ r, e = .returned r ∧ MagR w' r (m - n)) ∧ Below w.heap.size w w' := by
  obtain ⟨a, len, cap, l, rfl, h1, h2, rfl⟩ := hu
  obtain ⟨a', len', cap', l', rfl, h1', h2', rfl⟩ := hv
  have hl : len' ≤ len := by
    rcases Nat.lt_or_ge len len' with h | h
    · have := h2.length_lt_val h2' (by rw [h1.1, h1'.1]; exact h); omega
    · exact h
  refine (sub_in a len cap l a' len' cap' l' w h1 h1' h2.1 h2'.1 (MagR.small h1 h2 bm) hl).mono ?_
  rintro e w' ⟨⟨out, b, cap2, rfl, hn, hd, hv, hlo⟩, hb⟩
  refine ⟨⟨_, rfl, ?_⟩, hb⟩
  have hlt := Big.val_lt hd
  obtain ⟨c, hc, hv⟩ := hv.out
  rw [hlo] at hlt
  have hc0 : c = 0 := by
    rcases Nat.eq_zero_or_pos c with h | h
    · exact h
    · have : c = 1 := by omega
      subst this; omega
  subst hc0
  have e : Big.val out = Big.val l - Big.val l' := by omega
  rw [← e]; exact MagR.trim hn hd
def cmpN (m n : Nat) : Int := if m < n then -1 else if m = n then 0 else 1
theorem cmpm_any (u v : Value) (m n : Nat) (w : World) (hu : MagR w u m) (hv : MagR w v n) :
    Calls Tryz.prog 74 #[u, v] w fun e w' => e = .returned (.int .i64 (cmpN m n)) ∧ Below w.heap.size w w' := by
  obtain ⟨a, len, cap, l, rfl, h1, h2, rfl⟩ := hu
  obtain ⟨a', len', cap', l', rfl, h1', h2', rfl⟩ := hv
  exact cmp_any a len cap l a' len' cap' l' w h1 h1' h2 h2'
theorem MagR.zero {w : World} {a : Option Addr} {len cap n : Nat} {l : List Nat} (h1 : Nums w a len cap l) (h2 : Big.Norm l) (h3 : Big.val l = n) : len = 0 ↔ n = 0 := by
  rw [← h3, ← h2.nil_iff, ← h1.1]; exact List.length_eq_zero_iff
theorem sg_lt (neg : Bool) (n : Nat) : decide (sg neg n < 0) = (neg && decide (0 < n)) := by
  unfold sg; cases neg <;> simp <;> omega
theorem sg_abs (neg : Bool) (n : Nat) : (sg neg n).natAbs = n := by
  unfold sg; cases neg <;> simp
theorem sign_any (neg : Bool) (v : Value) (n : Nat) (w : World) (hv : MagR w v n) :
    Calls Tryz.prog 72 #[.bool neg, v] w fun e w' => (∃ r, e = .returned r ∧ BigR w' r (sg neg n)) ∧ Below w.heap.size w w' := by
  obtain ⟨a, len, cap, l, rfl, h1, h2, h3⟩ := hv
  have hz := MagR.zero h1 h2 h3
  have HM := Lib.hid (show MagR w (.slice a len cap) n from ⟨a, len, cap, l, rfl, h1, h2, h3⟩)
  have HF := Lib.hid (fun (b : Bool) (w' : World) (hb : Below w.heap.size w w') (he : decide (sg neg n < 0) = b) =>
    (⟨⟨_, rfl, ⟨.slice a len cap, by rw [he], by rw [sg_abs]; exact HM.out.below hb⟩⟩, hb⟩ : (∃ r, Ending.returned (.agg #[.bool b, .slice a len cap]) = .returned r ∧ BigR w' r (sg neg n)) ∧ Below w.heap.size w w'))
  have HE := Lib.hid (sg_lt neg n)
  have hl := h1.2.1
  have hl2 := h1.2.2.1
  clear h1 h2 h3
  cases neg with
  | false =>
    have e0 : Hid (decide (sg false n < 0) = false) := by show _ = _; rw [HE.out]; rfl
    clear hz
    go_enter Tryz.func72, Tryz.ntmps72
    go_wp2
    exact bodyPost_ret (v := .agg #[.bool false, .slice a len cap]) (by simp [results, Tryz.results72, go_sem]) rfl (HF.out _ _ ((Below.refl _ _).alloc (Nat.le_refl _) _) e0.out)
  | true =>
    by_cases hp : 0 < n
    · have hlp : 0 < len := by omega
      have e0 : Hid (decide (sg true n < 0) = true) := by show _ = _; rw [HE.out]; simp [hp]
      clear hz hp
      go_enter Tryz.func72, Tryz.ntmps72
      go_wp2
      exact bodyPost_ret (v := .agg #[.bool true, .slice a len cap]) (by simp [results, Tryz.results72, go_sem]) rfl (HF.out _ _ ((Below.refl _ _).alloc (Nat.le_refl _) _) e0.out)
    · have hlp : len = 0 := by omega
      have e0 : Hid (decide (sg true n < 0) = false) := by show _ = _; rw [HE.out]; simp [hp]
      subst hlp
      clear hz hp
      go_enter Tryz.func72, Tryz.ntmps72
      go_wp2
      exact bodyPost_ret (v := .agg #[.bool false, .slice a 0 cap]) (by simp [results, Tryz.results72, go_sem]) rfl (HF.out _ _ ((Below.refl _ _).alloc (Nat.le_refl _) _) e0.out)
theorem Nums.put2 {w : World} {a : Option Addr} {len cap g : Nat} {l : List Nat} {t : TypeId} {b0 : Bool} {a0 : Option Addr} {l0 c0 : Nat} {x y : Value} (h : Nums w a len cap l) (hB : Mem.Blk w g t #[.bool b0, .slice a0 l0 c0]) : Nums ((w.setCell ⟨g, 0, none⟩ x).setCell ⟨g, 1, none⟩ y) a len cap l := by
  obtain ⟨h1, h2, h2', h3⟩ := h
  refine ⟨h1, h2, h2', fun hp => ?_⟩
  obtain ⟨b, o, ha, hlt, hc⟩ := h3 hp
  have hne : b ≠ g := by
    rintro rfl
    have e := hc 0 (l.getD 0 0) (by rw [List.getD_eq_getElem?_getD, List.getElem?_eq_getElem (by omega)]; rfl)
    rw [hB.cell] at e
    match o, e with
    | 0, e => cases e
    | 1, e => cases e
    | k + 2, e => simp at e
  refine ⟨b, o, ha, by simpa [World.setCell] using hlt, fun i v hv => ?_⟩
  have e1 : ((w.setCell ⟨g, 0, none⟩ x).setCell ⟨g, 1, none⟩ y).heap[b]? = w.heap[b]? := by
    rw [Below.heap_setCell _ _ _ _ hne, Below.heap_setCell _ _ _ _ hne]
  rw [World.cell?_of_block (w := w) e1]
  exact hc i v hv
theorem BigR.put2 {w : World} {r : Value} {z : Int} {g : Nat} {t : TypeId} {b0 : Bool} {a0 : Option Addr} {l0 c0 : Nat} {x y : Value} (h : BigR w r z) (hB : Mem.Blk w g t #[.bool b0, .slice a0 l0 c0]) : BigR ((w.setCell ⟨g, 0, none⟩ x).setCell ⟨g, 1, none⟩ y) r z := by
  obtain ⟨m, rfl, a, len, cap, l, rfl, h1, h2, h3⟩ := h
  exact ⟨_, rfl, a, len, cap, l, rfl, h1.put2 hB, h2, h3⟩
theorem bigr_not (z : Int) : sg (!decide (z < 0)) z.natAbs = -z := by
  unfold sg
  by_cases h : z < 0
  · simp [h]; omega
  · simp [h]; omega
theorem minus_any (v : Value) (z : Int) (w : World) (hv : BigR w v z) :
    Calls Tryz.prog 88 #[v] w fun e w' => (∃ r, e = .returned r ∧ BigR w' r (-z)) ∧ Below w.heap.size w w' := by
  obtain ⟨m, rfl, hm⟩ := hv
  have HN := Lib.hid (bigr_not z)
  have HM := Lib.hid hm
  obtain ⟨a, len, cap, l, rfl, h1, h2, h3⟩ := hm
  clear h1 h2 h3
  go_enter Tryz.func88, Tryz.ntmps88
  go_wp2_with fail
  refine (sign_any _ _ z.natAbs _ (HM.out.below (((Below.refl _ _).alloc (Nat.le_refl _) _).alloc (by simp) _))).mono ?_
  rintro e w1 ⟨⟨r, rfl, hr⟩, b1⟩
  rw [HN.out] at hr
  have bw1 : Below w.heap.size w w1 := (((Below.refl _ _).alloc (Nat.le_refl _) _).alloc (by simp) _).trans (b1.mono (by simp; omega))
  have B1 := (Mem.Blk.new (w.alloc (.cells #[.bool (decide (z < 0)), .slice a len cap] 122)) 122 #[.bool false, .slice none 0 0]).below b1
  have hr2 := hr
  obtain ⟨m2, rfl, a2, len2, cap2, l2, rfl, h1, h2, h3⟩ := hr
  have HR := Lib.hid (fun x y => hr2.put2 (x := x) (y := y) B1)
  clear hr2
  obtain ⟨c0, c1, f0, f1⟩ := B1.two
  have e1 : (w.alloc (.cells #[.bool (decide (z < 0)), .slice a len cap] 122)).heap.size = w.heap.size + 1 := by simp
  rw [e1] at c0 c1 f0 f1 HR
  clear h1 h2 h3 b1 B1
  go_wp2
  refine bodyPost_ret (v := .agg #[.bool (decide (-z < 0)), .slice a2 len2 cap2]) (by simp [results, Tryz.results88, go_sem, c0, c1]) rfl ⟨⟨_, rfl, HR.out _ _⟩, ?_⟩
  exact (bw1.setCell (by simp) _).setCell (by simp) _
end Go.Proofs.YtmiinmndbkdjbaaGreat

namespace Go.Proofs.YtmiinmndbkdjbaaGreat
set_option linter.unusedVariables false
set_option linter.unusedSimpArgs false
open Go.RowKit
theorem three_cells {w w' : World} {x1 y1 x2 y2 x3 y3 : Value} (hb : Below (w.heap.size + 3) (((w.alloc (.cells #[x1, y1] 122)).alloc (.cells #[x2, y2] 122)).alloc (.cells #[x3, y3] 122)) w') :
    w'.cell? ⟨w.heap.size, 0, none⟩ = some x1 ∧ w'.cell? ⟨w.heap.size, 1, none⟩ = some y1 ∧ w'.cell? ⟨w.heap.size + 1, 0, none⟩ = some x2 ∧ w'.cell? ⟨w.heap.size + 1, 1, none⟩ = some y2 ∧ w'.cell? ⟨w.heap.size + 2, 0, none⟩ = some x3 ∧ w'.cell? ⟨w.heap.size + 2, 1, none⟩ = some y3 ∧ w'.frozen? ⟨w.heap.size + 2, 0, none⟩ = false ∧ w'.frozen? ⟨w.heap.size + 2, 1, none⟩ = false := by
  have e1 : (w.alloc (.cells #[x1, y1] 122)).heap.size = w.heap.size + 1 := by simp
  have e2 : ((w.alloc (.cells #[x1, y1] 122)).alloc (.cells #[x2, y2] 122)).heap.size = w.heap.size + 2 := by simp
  have B1 : Mem.Blk w' w.heap.size 122 #[x1, y1] := (((Mem.Blk.new w 122 #[x1, y1]).alloc _).alloc _).call hb (by omega)
  have B2 : Mem.Blk w' (w.heap.size + 1) 122 #[x2, y2] := by
    have := (Mem.Blk.new (w.alloc (.cells #[x1, y1] 122)) 122 #[x2, y2]).alloc (.cells #[x3, y3] 122)
    rw [e1] at this; exact this.call hb (by omega)
  have B3 : Mem.Blk w' (w.heap.size + 2) 122 #[x3, y3] := by
    have := Mem.Blk.new ((w.alloc (.cells #[x1, y1] 122)).alloc (.cells #[x2, y2] 122)) 122 #[x3, y3]
    rw [e2] at this; exact this.call hb (by omega)
  obtain ⟨a1, a2, _, _⟩ := B1.two
  obtain ⟨a3, a4, _, _⟩ := B2.two
  obtain ⟨a5, a6, a7, a8⟩ := B3.two
  exact ⟨a1, a2, a3, a4, a5, a6, a7, a8⟩
theorem three_blk {w w' : World} {x1 y1 x2 y2 x3 y3 : Value} (hb : Below (w.heap.size + 3) (((w.alloc (.cells #[x1, y1] 122)).alloc (.cells #[x2, y2] 122)).alloc (.cells #[x3, y3] 122)) w') : Mem.Blk w' (w.heap.size + 2) 122 #[x3, y3] := by
  have e2 : ((w.alloc (.cells #[x1, y1] 122)).alloc (.cells #[x2, y2] 122)).heap.size = w.heap.size + 2 := by simp
  have := Mem.Blk.new ((w.alloc (.cells #[x1, y1] 122)).alloc (.cells #[x2, y2] 122)) 122 #[x3, y3]
  rw [e2] at this; exact this.call hb (by omega)
theorem three_bel (w : World) (x1 y1 x2 y2 x3 y3 : Value) : Below w.heap.size w (((w.alloc (.cells #[x1, y1] 122)).alloc (.cells #[x2, y2] 122)).alloc (.cells #[x3, y3] 122)) :=
  (((Below.refl _ _).alloc (Nat.le_refl _) _).alloc (by simp) _).alloc (by simp; omega) _
theorem three_size (w : World) (x1 y1 x2 y2 x3 y3 : Value) : (((w.alloc (.cells #[x1, y1] 122)).alloc (.cells #[x2, y2] 122)).alloc (.cells #[x3, y3] 122)).heap.size = w.heap.size + 3 := by simp
/-- No more digits than a million. -/
@[irreducible] def Sm (n : Nat) : Prop := n < Big.pw 1000000
theorem Sm.lt {n : Nat} (h : Sm n) : n < Big.pw 1000000 := by unfold Sm at h; exact h
theorem Sm.of {n : Nat} (h : n < Big.pw 1000000) : Sm n := by unfold Sm; exact h
theorem far_cell {w : World} {h g i j : Nat} {u x : Value} (hc : w.cell? ⟨h, i, none⟩ = some x) (hne : h ≠ g) : (w.setCell ⟨g, j, none⟩ u).cell? ⟨h, i, none⟩ = some x := by
  rw [World.cell?_of_block (w := w) (Below.heap_setCell w ⟨g, j, none⟩ u h hne)]; exact hc
theorem keep4 {w : World} {h : Nat} {a b c d u v : Value} (h1 : w.cell? ⟨h, 0, none⟩ = some a) (h2 : w.cell? ⟨h, 1, none⟩ = some b) (h3 : w.cell? ⟨h + 1, 0, none⟩ = some c) (h4 : w.cell? ⟨h + 1, 1, none⟩ = some d) :
    ((w.setCell ⟨h + 1 + 1, 0, none⟩ u).setCell ⟨h + 1 + 1, 1, none⟩ v).cell? ⟨h, 0, none⟩ = some a ∧ ((w.setCell ⟨h + 1 + 1, 0, none⟩ u).setCell ⟨h + 1 + 1, 1, none⟩ v).cell? ⟨h, 1, none⟩ = some b ∧ ((w.setCell ⟨h + 1 + 1, 0, none⟩ u).setCell ⟨h + 1 + 1, 1, none⟩ v).cell? ⟨h + 1, 0, none⟩ = some c ∧ ((w.setCell ⟨h + 1 + 1, 0, none⟩ u).setCell ⟨h + 1 + 1, 1, none⟩ v).cell? ⟨h + 1, 1, none⟩ = some d :=
  ⟨far_cell (far_cell h1 (by omega)) (by omega), far_cell (far_cell h2 (by omega)) (by omega), far_cell (far_cell h3 (by omega)) (by omega), far_cell (far_cell h4 (by omega)) (by omega)⟩
set_option maxRecDepth 100000 in
set_option maxHeartbeats 4000000 in
theorem plus_same (s : Bool) (m m' : Value) (n n' : Nat) (w : World) (hm : MagR w m n) (hm' : MagR w m' n') (bn : Sm n) (bn' : Sm n') :
    Calls Tryz.prog 45 #[.agg #[.bool s, m], .agg #[.bool s, m']] w fun e w' => (∃ r, e = .returned r ∧ BigR w' r (sg s (n + n'))) ∧ Below w.heap.size w w' := by
  have HM := Lib.hid hm
  have HM' := Lib.hid hm'
  have BN := Lib.hid bn
  have BN' := Lib.hid bn'
  obtain ⟨a, len, cap, l, rfl, h1, h2, h3⟩ := hm
  obtain ⟨a', len', cap', l', rfl, h1', h2', h3'⟩ := hm'
  clear h1 h2 h3 h1' h2' h3' bn bn'
  obtain ⟨c1, c2, c3, c4, c5, c6, c7, c8⟩ := three_cells (w := w) (x1 := .bool s) (y1 := .slice a len cap) (x2 := .bool s) (y2 := .slice a' len' cap') (x3 := .bool false) (y3 := .slice none 0 0) (Below.refl _ _)
  have T := Lib.hid (three_bel w (.bool s) (.slice a len cap) (.bool s) (.slice a' len' cap') (.bool false) (.slice none 0 0))
  have TB := Lib.hid (fun w' hb => three_blk (w := w) (w' := w') (x1 := .bool s) (y1 := .slice a len cap) (x2 := .bool s) (y2 := .slice a' len' cap') (x3 := .bool false) (y3 := .slice none 0 0) hb)
  have TC := Lib.hid (fun w' hb => three_cells (w := w) (w' := w') (x1 := .bool s) (y1 := .slice a len cap) (x2 := .bool s) (y2 := .slice a' len' cap') (x3 := .bool false) (y3 := .slice none 0 0) hb)
  have TS := Lib.hid (three_size w (.bool s) (.slice a len cap) (.bool s) (.slice a' len' cap') (.bool false) (.slice none 0 0))
  go_enter Tryz.func45, Tryz.ntmps45
  go_wp2_with fail
  generalize ((w.alloc (.cells #[.bool s, .slice a len cap] 122)).alloc (.cells #[.bool s, .slice a' len' cap'] 122)).alloc (.cells #[.bool false, .slice none 0 0] 122) = v at *
  have K0 := Lib.hid (Below.refl (w.heap.size + 3) v)
  go_region_held3 (fun w' => w'.cell? ⟨w.heap.size, 0, none⟩ = some (.bool s) ∧ w'.cell? ⟨w.heap.size, 1, none⟩ = some (.slice a len cap) ∧ w'.cell? ⟨w.heap.size + 1, 0, none⟩ = some (.bool s) ∧ w'.cell? ⟨w.heap.size + 1, 1, none⟩ = some (.slice a' len' cap')) (first | exact keep4 g1 g2 g3 g4 | go_keep)
    (first
      | (go_at_call 73
         refine (add_any _ _ n n' _ (HM.out.below T.out.drew) (HM'.out.below T.out.drew) BN.out.lt BN'.out.lt).mono ?_
         rintro e w1 ⟨⟨r, rfl, hr⟩, b1⟩
         have k1 : Below (w.heap.size + 3) v w1 := (K0.out.drew).trans (b1.mono (Nat.le_trans (Nat.le_of_eq TS.out.symm) K0.out.size))
         obtain ⟨d1, d2, d3, d4, d5, d6, d7, d8⟩ := TC.out w1 k1)
      | (go_at_call 72
         refine (sign_any _ _ _ _ hr).mono ?_
         rintro e w2 ⟨⟨r2, rfl, hr2⟩, b2⟩
         have k2 : Below (w.heap.size + 3) v w2 := k1.trans (b2.mono (Nat.le_trans (Nat.le_of_eq TS.out.symm) k1.size))
         obtain ⟨g1, g2, g3, g4, g5, g6, g7, g8⟩ := TC.out w2 k2
         have hr3 := hr2
         obtain ⟨m2, rfl, a2, len2, cap2, l2, rfl, q1, q2, q3⟩ := hr2))
  have HR := Lib.hid (fun x y => hr3.put2 (x := x) (y := y) (TB.out w2 k2))
  have BW := Lib.hid (T.out.trans (k2.mono (by omega)))
  clear TC TB hr hr3 q1 q2 q3 d1 d2 d3 d4 d5 d6 d7 d8 c1 c2 c3 c4 c5 c6 c7 c8 b1 b2 k1 k2
  go_wp2
  refine bodyPost_ret (v := .agg #[.bool (decide (sg s (n + n') < 0)), .slice a2 len2 cap2]) (by simp [results, Tryz.results45, go_sem, g5, g6]) rfl ⟨⟨_, rfl, HR.out _ _⟩, ?_⟩
  exact (BW.out.setCell (by simp; omega) _).setCell (by simp; omega) _
set_option maxRecDepth 100000 in
set_option maxHeartbeats 4000000 in
theorem plus_ge (s : Bool) (m m' : Value) (n n' : Nat) (w : World) (hm : MagR w m n) (hm' : MagR w m' n') (bn : Sm n) (bn' : Sm n') (hle : n' ≤ n) :
    Calls Tryz.prog 45 #[.agg #[.bool s, m], .agg #[.bool (!s), m']] w fun e w' => (∃ r, e = .returned r ∧ BigR w' r (sg s (n - n'))) ∧ Below w.heap.size w w' := by
  have HM := Lib.hid hm
  have HM' := Lib.hid hm'
  have BN := Lib.hid bn
  have BN' := Lib.hid bn'
  obtain ⟨a, len, cap, l, rfl, h1, h2, h3⟩ := hm
  obtain ⟨a', len', cap', l', rfl, h1', h2', h3'⟩ := hm'
  clear h1 h2 h3 h1' h2' h3' bn bn'
  obtain ⟨c1, c2, c3, c4, c5, c6, c7, c8⟩ := three_cells (w := w) (x1 := .bool s) (y1 := .slice a len cap) (x2 := .bool (!s)) (y2 := .slice a' len' cap') (x3 := .bool false) (y3 := .slice none 0 0) (Below.refl _ _)
  have T := Lib.hid (three_bel w (.bool s) (.slice a len cap) (.bool (!s)) (.slice a' len' cap') (.bool false) (.slice none 0 0))
  have TB := Lib.hid (fun w' hb => three_blk (w := w) (w' := w') (x1 := .bool s) (y1 := .slice a len cap) (x2 := .bool (!s)) (y2 := .slice a' len' cap') (x3 := .bool false) (y3 := .slice none 0 0) hb)
  have TC := Lib.hid (fun w' hb => three_cells (w := w) (w' := w') (x1 := .bool s) (y1 := .slice a len cap) (x2 := .bool (!s)) (y2 := .slice a' len' cap') (x3 := .bool false) (y3 := .slice none 0 0) hb)
  have TS := Lib.hid (three_size w (.bool s) (.slice a len cap) (.bool (!s)) (.slice a' len' cap') (.bool false) (.slice none 0 0))
  have HLE := Lib.hid hle
  obtain ⟨cv, hcv, hcv0⟩ : ∃ cv, cmpN n n' = cv ∧ 0 ≤ cv := ⟨_, rfl, by unfold cmpN; rw [if_neg (by omega)]; split <;> decide⟩
  have HCV := Lib.hid hcv
  clear hcv hle
  have hs : (s == !s) = false := by cases s <;> rfl
  go_enter Tryz.func45, Tryz.ntmps45
  go_wp2_with fail
  have hv0 : Hid (Below w.heap.size w (((w.alloc (.cells #[.bool s, .slice a len cap] 122)).alloc (.cells #[.bool (!s), .slice a' len' cap'] 122)).alloc (.cells #[.bool false, .slice none 0 0] 122))) := T
  generalize ((w.alloc (.cells #[.bool s, .slice a len cap] 122)).alloc (.cells #[.bool (!s), .slice a' len' cap'] 122)).alloc (.cells #[.bool false, .slice none 0 0] 122) = v at *
  refine (cmpm_any _ _ n n' _ (HM.out.below T.out) (HM'.out.below T.out)).mono ?_
  rintro e w0 ⟨rfl, b0⟩
  rw [HCV.out]
  have K0 : Hid (Below (w.heap.size + 3) v w0) := b0.mono (Nat.le_of_eq TS.out.symm)
  obtain ⟨p1, p2, p3, p4, p5, p6, p7, p8⟩ := TC.out w0 K0.out
  go_wp2_with fail
  go_region_held3 (fun w' => w'.cell? ⟨w.heap.size, 0, none⟩ = some (.bool s) ∧ w'.cell? ⟨w.heap.size, 1, none⟩ = some (.slice a len cap) ∧ w'.cell? ⟨w.heap.size + 1, 0, none⟩ = some (.bool (!s)) ∧ w'.cell? ⟨w.heap.size + 1, 1, none⟩ = some (.slice a' len' cap')) (first | exact keep4 g1 g2 g3 g4 | go_keep)
    (first
      | (go_at_call 75
         refine (sub_any _ _ n n' _ (HM.out.below (T.out.trans (K0.out.mono (by omega))).drew) (HM'.out.below (T.out.trans (K0.out.mono (by omega))).drew) BN.out.lt HLE.out).mono ?_
         rintro e w1 ⟨⟨r, rfl, hr⟩, b1⟩
         have k1 : Below (w.heap.size + 3) v w1 := (K0.out.drew).trans (b1.mono (Nat.le_trans (Nat.le_of_eq TS.out.symm) K0.out.size))
         obtain ⟨d1, d2, d3, d4, d5, d6, d7, d8⟩ := TC.out w1 k1)
      | (go_at_call 72
         refine (sign_any _ _ _ _ hr).mono ?_
         rintro e w2 ⟨⟨r2, rfl, hr2⟩, b2⟩
         have k2 : Below (w.heap.size + 3) v w2 := k1.trans (b2.mono (Nat.le_trans (Nat.le_of_eq TS.out.symm) k1.size))
         obtain ⟨g1, g2, g3, g4, g5, g6, g7, g8⟩ := TC.out w2 k2
         have hr3 := hr2
         obtain ⟨m2, rfl, a2, len2, cap2, l2, rfl, q1, q2, q3⟩ := hr2))
  have HR := Lib.hid (fun x y => hr3.put2 (x := x) (y := y) (TB.out w2 k2))
  have BW := Lib.hid (T.out.trans (k2.mono (by omega)))
  clear TC TB hr hr3 q1 q2 q3 d1 d2 d3 d4 d5 d6 d7 d8 c1 c2 c3 c4 c5 c6 c7 c8 b1 b2 k1 k2
  go_wp2
  refine bodyPost_ret (v := .agg #[.bool (decide (sg s (n - n') < 0)), .slice a2 len2 cap2]) (by simp [results, Tryz.results45, go_sem, g5, g6]) rfl ⟨⟨_, rfl, HR.out _ _⟩, ?_⟩
  exact (BW.out.setCell (by simp; omega) _).setCell (by simp; omega) _
set_option maxRecDepth 100000 in
set_option maxHeartbeats 4000000 in
theorem plus_lt (s : Bool) (m m' : Value) (n n' : Nat) (w : World) (hm : MagR w m n) (hm' : MagR w m' n') (bn : Sm n) (bn' : Sm n') (hle : n < n') :
    Calls Tryz.prog 45 #[.agg #[.bool s, m], .agg #[.bool (!s), m']] w fun e w' => (∃ r, e = .returned r ∧ BigR w' r (sg (!s) (n' - n))) ∧ Below w.heap.size w w' := by
  have HM := Lib.hid hm
  have HM' := Lib.hid hm'
  have BN := Lib.hid bn
  have BN' := Lib.hid bn'
  obtain ⟨a, len, cap, l, rfl, h1, h2, h3⟩ := hm
  obtain ⟨a', len', cap', l', rfl, h1', h2', h3'⟩ := hm'
  clear h1 h2 h3 h1' h2' h3' bn bn'
  obtain ⟨c1, c2, c3, c4, c5, c6, c7, c8⟩ := three_cells (w := w) (x1 := .bool s) (y1 := .slice a len cap) (x2 := .bool (!s)) (y2 := .slice a' len' cap') (x3 := .bool false) (y3 := .slice none 0 0) (Below.refl _ _)
  have T := Lib.hid (three_bel w (.bool s) (.slice a len cap) (.bool (!s)) (.slice a' len' cap') (.bool false) (.slice none 0 0))
  have TB := Lib.hid (fun w' hb => three_blk (w := w) (w' := w') (x1 := .bool s) (y1 := .slice a len cap) (x2 := .bool (!s)) (y2 := .slice a' len' cap') (x3 := .bool false) (y3 := .slice none 0 0) hb)
  have TC := Lib.hid (fun w' hb => three_cells (w := w) (w' := w') (x1 := .bool s) (y1 := .slice a len cap) (x2 := .bool (!s)) (y2 := .slice a' len' cap') (x3 := .bool false) (y3 := .slice none 0 0) hb)
  have TS := Lib.hid (three_size w (.bool s) (.slice a len cap) (.bool (!s)) (.slice a' len' cap') (.bool false) (.slice none 0 0))
  have HLE := Lib.hid hle
  obtain ⟨cv, hcv, hcv0⟩ : ∃ cv, cmpN n n' = cv ∧ cv < 0 := ⟨_, rfl, by unfold cmpN; rw [if_pos hle]; decide⟩
  have HCV := Lib.hid hcv
  clear hcv hle
  have hs : (s == !s) = false := by cases s <;> rfl
  go_enter Tryz.func45, Tryz.ntmps45
  go_wp2_with fail
  have hv0 : Hid (Below w.heap.size w (((w.alloc (.cells #[.bool s, .slice a len cap] 122)).alloc (.cells #[.bool (!s), .slice a' len' cap'] 122)).alloc (.cells #[.bool false, .slice none 0 0] 122))) := T
  generalize ((w.alloc (.cells #[.bool s, .slice a len cap] 122)).alloc (.cells #[.bool (!s), .slice a' len' cap'] 122)).alloc (.cells #[.bool false, .slice none 0 0] 122) = v at *
  refine (cmpm_any _ _ n n' _ (HM.out.below T.out) (HM'.out.below T.out)).mono ?_
  rintro e w0 ⟨rfl, b0⟩
  rw [HCV.out]
  have K0 : Hid (Below (w.heap.size + 3) v w0) := b0.mono (Nat.le_of_eq TS.out.symm)
  obtain ⟨p1, p2, p3, p4, p5, p6, p7, p8⟩ := TC.out w0 K0.out
  go_wp2_with fail
  go_region_held3 (fun w' => w'.cell? ⟨w.heap.size, 0, none⟩ = some (.bool s) ∧ w'.cell? ⟨w.heap.size, 1, none⟩ = some (.slice a len cap) ∧ w'.cell? ⟨w.heap.size + 1, 0, none⟩ = some (.bool (!s)) ∧ w'.cell? ⟨w.heap.size + 1, 1, none⟩ = some (.slice a' len' cap')) (first | exact keep4 g1 g2 g3 g4 | go_keep)
    (first
      | (go_at_call 75
         refine (sub_any _ _ n' n _ (HM'.out.below (T.out.trans (K0.out.mono (by omega))).drew) (HM.out.below (T.out.trans (K0.out.mono (by omega))).drew) BN'.out.lt (Nat.le_of_lt HLE.out)).mono ?_
         rintro e w1 ⟨⟨r, rfl, hr⟩, b1⟩
         have k1 : Below (w.heap.size + 3) v w1 := (K0.out.drew).trans (b1.mono (Nat.le_trans (Nat.le_of_eq TS.out.symm) K0.out.size))
         obtain ⟨d1, d2, d3, d4, d5, d6, d7, d8⟩ := TC.out w1 k1)
      | (go_at_call 72
         refine (sign_any _ _ _ _ hr).mono ?_
         rintro e w2 ⟨⟨r2, rfl, hr2⟩, b2⟩
         have k2 : Below (w.heap.size + 3) v w2 := k1.trans (b2.mono (Nat.le_trans (Nat.le_of_eq TS.out.symm) k1.size))
         obtain ⟨g1, g2, g3, g4, g5, g6, g7, g8⟩ := TC.out w2 k2
         have hr3 := hr2
         obtain ⟨m2, rfl, a2, len2, cap2, l2, rfl, q1, q2, q3⟩ := hr2))
  have HR := Lib.hid (fun x y => hr3.put2 (x := x) (y := y) (TB.out w2 k2))
  have BW := Lib.hid (T.out.trans (k2.mono (by omega)))
  clear TC TB hr hr3 q1 q2 q3 d1 d2 d3 d4 d5 d6 d7 d8 c1 c2 c3 c4 c5 c6 c7 c8 b1 b2 k1 k2
  go_wp2
  refine bodyPost_ret (v := .agg #[.bool (decide (sg (!s) (n' - n) < 0)), .slice a2 len2 cap2]) (by simp [results, Tryz.results45, go_sem, g5, g6]) rfl ⟨⟨_, rfl, HR.out _ _⟩, ?_⟩
  exact (BW.out.setCell (by simp; omega) _).setCell (by simp; omega) _
theorem big_add_same (z z' : Int) (h : decide (z < 0) = decide (z' < 0)) : sg (decide (z < 0)) (z.natAbs + z'.natAbs) = z + z' := by
  unfold sg
  by_cases h1 : z < 0 <;> by_cases h2 : z' < 0 <;> simp [h1, h2] at h ⊢ <;> omega
theorem big_add_ge (z z' : Int) (h : decide (z' < 0) = !decide (z < 0)) (hle : z'.natAbs ≤ z.natAbs) : sg (decide (z < 0)) (z.natAbs - z'.natAbs) = z + z' := by
  unfold sg
  by_cases h1 : z < 0 <;> by_cases h2 : z' < 0 <;> simp [h1, h2] at h ⊢ <;> omega
theorem big_add_lt (z z' : Int) (h : decide (z' < 0) = !decide (z < 0)) (hle : z.natAbs < z'.natAbs) : sg (!decide (z < 0)) (z'.natAbs - z.natAbs) = z + z' := by
  unfold sg
  by_cases h1 : z < 0 <;> by_cases h2 : z' < 0 <;> simp [h1, h2] at h ⊢ <;> omega
theorem plus_any (u v : Value) (z z' : Int) (w : World) (hu : BigR w u z) (hv : BigR w v z') (bn : Sm z.natAbs) (bn' : Sm z'.natAbs) :
    Calls Tryz.prog 45 #[u, v] w fun e w' => (∃ r, e = .returned r ∧ BigR w' r (z + z')) ∧ Below w.heap.size w w' := by
  obtain ⟨m, rfl, hm⟩ := hu
  obtain ⟨m', rfl, hm'⟩ := hv
  have BN := Lib.hid bn
  have BN' := Lib.hid bn'
  clear bn bn'
  by_cases h : decide (z < 0) = decide (z' < 0)
  · have := plus_same (decide (z < 0)) m m' _ _ w hm hm' BN.out BN'.out
    rw [big_add_same z z' h] at this
    rw [← h]; exact this
  · have h2 : decide (z' < 0) = !decide (z < 0) := by
      revert h
      cases decide (z < 0) <;> cases decide (z' < 0) <;> simp
    by_cases hle : z'.natAbs ≤ z.natAbs
    · have := plus_ge (decide (z < 0)) m m' _ _ w hm hm' BN.out BN'.out hle
      rw [big_add_ge z z' h2 hle] at this
      rw [h2]; exact this
    · have := plus_lt (decide (z < 0)) m m' _ _ w hm hm' BN.out BN'.out (by omega)
      rw [big_add_lt z z' h2 (by omega)] at this
      rw [h2]; exact this
end Go.Proofs.YtmiinmndbkdjbaaGreat

namespace Go.Proofs.YtmiinmndbkdjbaaGreat
set_option linter.unusedVariables false
set_option linter.unusedSimpArgs false
open Go.RowKit
theorem two_cells64 {w w' : World} {x1 y1 x2 y2 : Value} (hb : Below (w.heap.size + 2) ((w.alloc (.cells #[x1, y1] 122)).alloc (.cells #[x2, y2] 122)) w') :
    w'.cell? ⟨w.heap.size, 0, none⟩ = some x1 ∧ w'.cell? ⟨w.heap.size, 1, none⟩ = some y1 ∧ w'.cell? ⟨w.heap.size + 1, 0, none⟩ = some x2 ∧ w'.cell? ⟨w.heap.size + 1, 1, none⟩ = some y2 := by
  have e1 : (w.alloc (.cells #[x1, y1] 122)).heap.size = w.heap.size + 1 := by simp
  have B1 : Mem.Blk w' w.heap.size 122 #[x1, y1] := (((Mem.Blk.new w 122 #[x1, y1]).alloc _)).call hb (by omega)
  have B2 : Mem.Blk w' (w.heap.size + 1) 122 #[x2, y2] := by
    have := (Mem.Blk.new (w.alloc (.cells #[x1, y1] 122)) 122 #[x2, y2])
    rw [e1] at this; exact this.call hb (by omega)
  exact ⟨B1.two.1, B1.two.2.1, B2.two.1, B2.two.2.1⟩
theorem keep4g {w : World} {h g : Nat} {a b c d u v : Value} (hg : h + 2 ≤ g) (h1 : w.cell? ⟨h, 0, none⟩ = some a) (h2 : w.cell? ⟨h, 1, none⟩ = some b) (h3 : w.cell? ⟨h + 1, 0, none⟩ = some c) (h4 : w.cell? ⟨h + 1, 1, none⟩ = some d) :
    ((w.setCell ⟨g, 0, none⟩ u).setCell ⟨g, 1, none⟩ v).cell? ⟨h, 0, none⟩ = some a ∧ ((w.setCell ⟨g, 0, none⟩ u).setCell ⟨g, 1, none⟩ v).cell? ⟨h, 1, none⟩ = some b ∧ ((w.setCell ⟨g, 0, none⟩ u).setCell ⟨g, 1, none⟩ v).cell? ⟨h + 1, 0, none⟩ = some c ∧ ((w.setCell ⟨g, 0, none⟩ u).setCell ⟨g, 1, none⟩ v).cell? ⟨h + 1, 1, none⟩ = some d :=
  ⟨far_cell (far_cell h1 (by omega)) (by omega), far_cell (far_cell h2 (by omega)) (by omega), far_cell (far_cell h3 (by omega)) (by omega), far_cell (far_cell h4 (by omega)) (by omega)⟩
def cmpZ (z z' : Int) : Int := if z < z' then -1 else if z = z' then 0 else 1
set_option maxRecDepth 100000 in
set_option maxHeartbeats 2000000 in
theorem bigcmp_any (u v : Value) (z z' : Int) (w : World) (hu : BigR w u z) (hv : BigR w v z') (bn : Sm z.natAbs) (bn' : Sm (-z').natAbs) :
    Calls Tryz.prog 77 #[u, v] w fun e w' => e = .returned (.int .i64 (cmpZ z z')) ∧ Below w.heap.size w w' := by
  have HR := Lib.hid (fun (x : Int) (h : cmpZ z z' = x) => (ret_int h.symm : Ending.returned (.int .i64 x) = .returned (.int .i64 (cmpZ z z'))))
  have HU := Lib.hid hu
  have HV := Lib.hid hv
  obtain ⟨m, rfl, a, len, cap, l, rfl, h1, h2, h3⟩ := hu
  obtain ⟨m', rfl, a', len', cap', l', rfl, h1', h2', h3'⟩ := hv
  clear h1 h2 h3 h1' h2' h3'
  generalize decide (z < 0) = s at *
  generalize decide (z' < 0) = s' at *
  have T := Lib.hid ((((Below.refl _ w).alloc (Nat.le_refl _) (.cells #[.bool s, .slice a len cap] 122)).alloc (by simp) (.cells #[.bool s', .slice a' len' cap'] 122)) : Below w.heap.size w _)
  have TC := Lib.hid (fun w' hb => two_cells64 (w := w) (w' := w') (x1 := .bool s) (y1 := .slice a len cap) (x2 := .bool s') (y2 := .slice a' len' cap') hb)
  have TS := Lib.hid (show ((w.alloc (.cells #[.bool s, .slice a len cap] 122)).alloc (.cells #[.bool s', .slice a' len' cap'] 122)).heap.size = w.heap.size + 2 by simp)
  have TL : Hid (w.heap.size ≤ ((w.alloc (.cells #[.bool s, .slice a len cap] 122)).alloc (.cells #[.bool s', .slice a' len' cap'] 122)).heap.size) := by show _ ≤ _; rw [TS.out]; omega
  go_enter Tryz.func77, Tryz.ntmps77
  go_wp2_with fail
  obtain ⟨c1, c2, c3, c4⟩ := TC.out _ (Below.refl _ _)
  generalize (w.alloc (.cells #[.bool s, .slice a len cap] 122)).alloc (.cells #[.bool s', .slice a' len' cap'] 122) = v at *
  go_region_held3 (fun w' => w'.cell? ⟨w.heap.size, 0, none⟩ = some (.bool s) ∧ w'.cell? ⟨w.heap.size, 1, none⟩ = some (.slice a len cap) ∧ w'.cell? ⟨w.heap.size + 1, 0, none⟩ = some (.bool s') ∧ w'.cell? ⟨w.heap.size + 1, 1, none⟩ = some (.slice a' len' cap')) (first | exact keep4g (Nat.le_trans (Nat.le_of_eq TS.out.symm) k1.size) g1 g2 g3 g4 | exact keep4g (Nat.le_of_eq TS.out.symm) g1 g2 g3 g4 | go_keep)
    (first
      | (go_at_call 88
         refine (minus_any _ z' _ (HV.out.below (by first | exact T.out.drew | exact (T.out.alloc TL.out _).drew))).mono ?_
         rintro e w1 ⟨⟨r, rfl, hr⟩, b1⟩
         have k1 : Below (w.heap.size + 2) v w1 := by
           first
             | exact ((Below.refl _ v).drew).trans (b1.mono (Nat.le_of_eq TS.out.symm))
             | exact (((Below.refl (w.heap.size + 2) v).alloc (Nat.le_of_eq TS.out.symm) (.cells #[.bool false, .slice none 0 0] 122)).drew).trans (b1.mono (Nat.le_trans (Nat.le_of_eq TS.out.symm) ((Below.refl (w.heap.size + 2) v).alloc (Nat.le_of_eq TS.out.symm) (.cells #[.bool false, .slice none 0 0] 122)).size))
         have k0 : Below w.heap.size w w1 := T.out.trans (k1.mono (by omega))
         obtain ⟨d1, d2, d3, d4⟩ := TC.out w1 k1
         have a1 : Below w1.heap.size w1 (w1.alloc (.cells #[.bool false, .slice none 0 0] 122)) := (Below.refl _ _).alloc (Nat.le_refl _) _
         have a2 : Below (w.heap.size + 2) v (w1.alloc (.cells #[.bool false, .slice none 0 0] 122)) := k1.trans (a1.mono (Nat.le_trans (Nat.le_of_eq TS.out.symm) k1.size))
         obtain ⟨n1, n2, n3, n4⟩ := TC.out _ a2
         try (have BA := (Mem.Blk.new v 122 #[.bool false, .slice none 0 0]).drew.below b1))
      | (go_at_call 45
         refine (plus_any _ _ z (-z') _ (HU.out.below (by first | exact k0 | exact T.out.trans (a2.mono (by omega)))) (by first | exact hr | exact hr.below a1) bn bn').mono ?_
         rintro e w2 ⟨⟨r2, rfl, hr2⟩, b2⟩
         have k2 : Below (w.heap.size + 2) v w2 := by
           first
             | exact k1.trans (b2.mono (Nat.le_trans (Nat.le_of_eq TS.out.symm) k1.size))
             | exact a2.trans (b2.mono (Nat.le_trans (Nat.le_of_eq TS.out.symm) a2.size))
         obtain ⟨g1, g2, g3, g4⟩ := TC.out w2 k2
         obtain ⟨m2, rfl, a2, len2, cap2, l2, rfl, q1, q2, q3⟩ := hr2
         try (have B3 := (Mem.Blk.new w1 122 #[.bool false, .slice none 0 0]).below b2; obtain ⟨e0, e1, f0, f1⟩ := B3.two)
         try (have B4 := BA.below b2; obtain ⟨e0, e1, f0, f1⟩ := B4.two)))
  all_goals
    have hz := MagR.zero q1 q2 q3
    have K := Lib.hid (T.out.trans (k2.mono (by omega)))
    have S1 := Lib.hid k0.size
    clear TC HU HV q1 q2 q3 hr k0 k1 k2 b1 b2 d1 d2 d3 d4 g1 g2 g3 g4 a1 n1 n2 n3 n4 c1 c2 c3 c4 bn bn'
    rcases Int.lt_trichotomy z z' with hlt | heq | hlt
    · have FIN := Lib.hid (HR.out (-1) (by unfold cmpZ; rw [if_pos hlt]))
      have e1 : decide (z + -z' < 0) = true := by simp; omega
      have hne : ((len2 : Int) == 0) = false := by simp; omega
      generalize decide (z + -z' < 0) = neg at *
      subst e1
      clear hz hlt
      go_wp2
      go_ret
      exact ⟨FIN.out, by first | exact K.out.alloc K.out.size _ | exact (K.out.setCell S1.out _).setCell S1.out _ | exact (K.out.setCell TL.out _).setCell TL.out _⟩
    · have FIN := Lib.hid (HR.out 0 (by unfold cmpZ; rw [if_neg (by omega), if_pos heq]))
      have hl0 : len2 = 0 := by omega
      subst hl0
      clear hz heq
      go_wp2
      go_ret
      exact ⟨FIN.out, by first | exact K.out.alloc K.out.size _ | exact (K.out.setCell S1.out _).setCell S1.out _ | exact (K.out.setCell TL.out _).setCell TL.out _⟩
    · have FIN := Lib.hid (HR.out 1 (by unfold cmpZ; rw [if_neg (by omega), if_neg (by omega)]))
      have e1 : decide (z + -z' < 0) = false := by simp; omega
      have hne : ((len2 : Int) == 0) = false := by simp; omega
      generalize decide (z + -z' < 0) = neg at *
      subst e1
      clear hz hlt
      go_wp2
      go_ret
      exact ⟨FIN.out, by first | exact K.out.alloc K.out.size _ | exact (K.out.setCell S1.out _).setCell S1.out _ | exact (K.out.setCell TL.out _).setCell TL.out _⟩
end Go.Proofs.YtmiinmndbkdjbaaGreat

namespace Go.Proofs.YtmiinmndbkdjbaaGreat
set_option linter.unusedVariables false
set_option linter.unusedSimpArgs false
open Go.RowKit
theorem lit4 (w : World) (g : Nat) (z1 z2 z3 z4 : Int) (n1 n2 n3 n4 : Nat) (hg : g = w.heap.size) (h1 : z1 = n1) (h2 : z2 = n2) (h3 : z3 = n3) (h4 : z4 = n4) :
    Nums (w.alloc (.cells #[.int .u64 z1, .int .u64 z2, .int .u64 z3, .int .u64 z4] 141)) (some ⟨g, 0, none⟩) 4 4 [n1, n2, n3, n4] := by
  subst hg h1 h2 h3 h4
  refine ⟨rfl, Nat.le_refl _, by decide, fun _ => ⟨w.heap.size, 0, rfl, by simp, fun i x hx => ?_⟩⟩
  have := (Mem.Blk.new w 141 #[.int .u64 (n1 : Int), .int .u64 (n2 : Int), .int .u64 (n3 : Int), .int .u64 (n4 : Int)]).cell (0 + i)
  rw [this, Nat.zero_add]
  match i, hx with
  | 0, hx => simp at hx; subst hx; rfl
  | 1, hx => simp at hx; subst hx; rfl
  | 2, hx => simp at hx; subst hx; rfl
  | 3, hx => simp at hx; subst hx; rfl
  | k + 4, hx => simp at hx
def ofD (n : Nat) : List Nat := [n % 65536, n / 65536 % 65536, n / 4294967296 % 65536, n / 281474976710656]
theorem ofD_dig (n : Nat) (h : n ≤ 9223372036854775808) : Big.Dig (ofD n) := by
  intro d hd; unfold ofD at hd; simp at hd
  rcases hd with rfl | rfl | rfl | rfl <;> omega
theorem ofD_val (n : Nat) : Big.val (ofD n) = n := by
  unfold ofD; simp [Big.val]; omega
theorem wrap_neg2 (n : Nat) (h : n ≤ 9223372036854775808) : IntKind.u64.wrap (-IntKind.u64.wrap (-(n : Int))) = n := by
  simp only [IntKind.wrap_u64]; omega
set_option maxRecDepth 100000 in
set_option maxHeartbeats 1000000 in
theorem bigof_any (a : Int) (w : World) (h0 : -9223372036854775808 ≤ a) (h1 : a ≤ 9223372036854775807) :
    Calls Tryz.prog 46 #[.int .i64 a] w fun e w' => (∃ r, e = .returned r ∧ BigR w' r a) ∧ Below w.heap.size w w' := by
  have HD := Lib.hid (ofD_dig a.natAbs (by omega))
  have HV := Lib.hid (ofD_val a.natAbs)
  have BW := Lib.hid (fun o o2 : Obj => (((Below.refl _ w).alloc (Nat.le_refl _) o).alloc (by simp) o2 : Below w.heap.size w _))
  by_cases hz : a < 0
  · obtain ⟨n, hn, rfl⟩ : ∃ n : Nat, 1 ≤ n ∧ a = -(n : Int) := ⟨a.natAbs, by omega, by omega⟩
    have e : Hid ((-(n : Int)).natAbs = n) := by show _ = _; omega
    have hwr := wrap_neg2 n (by omega)
    rw [e.out] at HD HV
    go_enter Tryz.func46, Tryz.ntmps46
    go_wp2_with fail
    refine (trim_any _ _ _ (ofD n) _ (lit4 _ _ _ _ _ _ _ _ _ _ (by simp) (by omega) (by omega) (by omega) (by omega))).mono ?_
    rintro e' w' ⟨rfl, rfl⟩
    have N1 := fun o : Obj => lit4 (w.alloc o) (w.heap.size + 1) ((n : Int) % 65536) ((n : Int) / 65536 % 65536) ((n : Int) / 4294967296 % 65536) ((n : Int) / 281474976710656) (n % 65536) (n / 65536 % 65536) (n / 4294967296 % 65536) (n / 281474976710656) (by simp) (by omega) (by omega) (by omega) (by omega)
    have hb : ∀ o : Obj, BigR ((w.alloc o).alloc (.cells #[.int .u64 ((n : Int) % 65536), .int .u64 ((n : Int) / 65536 % 65536), .int .u64 ((n : Int) / 4294967296 % 65536), .int .u64 ((n : Int) / 281474976710656)] 141)) (.agg #[.bool true, .slice (some ⟨w.heap.size + 1, 0, none⟩) (Big.trim (ofD n)).length 4]) (-(n : Int)) := by
      intro o
      refine ⟨.slice (some ⟨w.heap.size + 1, 0, none⟩) (Big.trim (ofD n)).length 4, by first | (simp; omega) | simp, ?_⟩
      rw [e.out]
      have := (N1 o).take (Big.trim (ofD n)).length (trim_le (ofD n))
      rw [show [n % 65536, n / 65536 % 65536, n / 4294967296 % 65536, n / 281474976710656] = ofD n from rfl, ← trim_len] at this
      have h := MagR.trim this HD.out
      rw [HV.out] at h
      exact h
    have HB := Lib.hid hb
    clear N1 hb
    generalize (Big.trim (ofD n)).length = k at *
    go_wp2
    refine bodyPost_ret (v := .agg #[.bool true, .slice (some ⟨w.heap.size + 1, 0, none⟩) k 4]) (by simp [results, Tryz.results46, go_sem]) rfl ⟨⟨_, rfl, HB.out _⟩, ?_⟩
    exact BW.out _ _
  · obtain ⟨n, rfl⟩ : ∃ n : Nat, a = (n : Int) := ⟨a.toNat, by omega⟩
    have e : Hid ((n : Int).natAbs = n) := by show _ = _; omega
    rw [e.out] at HD HV
    go_enter Tryz.func46, Tryz.ntmps46
    go_wp2_with fail
    refine (trim_any _ _ _ (ofD n) _ (lit4 _ _ _ _ _ _ _ _ _ _ (by simp) (by omega) (by omega) (by omega) (by omega))).mono ?_
    rintro e' w' ⟨rfl, rfl⟩
    have N1 := fun o : Obj => lit4 (w.alloc o) (w.heap.size + 1) ((n : Int) % 65536) ((n : Int) / 65536 % 65536) ((n : Int) / 4294967296 % 65536) ((n : Int) / 281474976710656) (n % 65536) (n / 65536 % 65536) (n / 4294967296 % 65536) (n / 281474976710656) (by simp) (by omega) (by omega) (by omega) (by omega)
    have hb : ∀ o : Obj, BigR ((w.alloc o).alloc (.cells #[.int .u64 ((n : Int) % 65536), .int .u64 ((n : Int) / 65536 % 65536), .int .u64 ((n : Int) / 4294967296 % 65536), .int .u64 ((n : Int) / 281474976710656)] 141)) (.agg #[.bool false, .slice (some ⟨w.heap.size + 1, 0, none⟩) (Big.trim (ofD n)).length 4]) ((n : Int)) := by
      intro o
      refine ⟨.slice (some ⟨w.heap.size + 1, 0, none⟩) (Big.trim (ofD n)).length 4, by first | (simp; omega) | simp, ?_⟩
      rw [e.out]
      have := (N1 o).take (Big.trim (ofD n)).length (trim_le (ofD n))
      rw [show [n % 65536, n / 65536 % 65536, n / 4294967296 % 65536, n / 281474976710656] = ofD n from rfl, ← trim_len] at this
      have h := MagR.trim this HD.out
      rw [HV.out] at h
      exact h
    have HB := Lib.hid hb
    clear N1 hb
    generalize (Big.trim (ofD n)).length = k at *
    go_wp2
    refine bodyPost_ret (v := .agg #[.bool false, .slice (some ⟨w.heap.size + 1, 0, none⟩) k 4]) (by simp [results, Tryz.results46, go_sem]) rfl ⟨⟨_, rfl, HB.out _⟩, ?_⟩
    exact BW.out _ _
end Go.Proofs.YtmiinmndbkdjbaaGreat

/- Small: an int64 of a number, or that it is beyond; condition: the number has at most a million digits. -/
namespace Go.Proofs.YtmiinmndbkdjbaaGreat
set_option linter.unusedVariables false
set_option linter.unusedSimpArgs false
open Go.RowKit
def smB (z : Int) : Bool := decide (-9223372036854775808 ≤ z ∧ z ≤ 9223372036854775807)
def smN (z : Int) : Int := if smB z then z else 0
theorem sm_no (z : Int) (h : ¬(-9223372036854775808 ≤ z ∧ z ≤ 9223372036854775807)) : Ending.returned (.tuple #[.int .i64 0, .bool false]) = .returned (.tuple #[.int .i64 (smN z), .bool (smB z)]) := by
  have e : smB z = false := by unfold smB; simpa using h
  unfold smN; rw [e]; rfl
theorem sm_yes (z : Int) (h : -9223372036854775808 ≤ z ∧ z ≤ 9223372036854775807) (x : Int) (hx : x = z) : Ending.returned (.tuple #[.int .i64 x, .bool true]) = .returned (.tuple #[.int .i64 (smN z), .bool (smB z)]) := by
  have e : smB z = true := by unfold smB; simpa using h
  unfold smN; rw [e, hx]; rfl
theorem cmpZ_gt (z y : Int) (h : y < z) : cmpZ z y = 1 := by unfold cmpZ; rw [if_neg (by omega), if_neg (by omega)]
theorem cmpZ_lt (z y : Int) (h : z < y) : cmpZ z y = -1 := by unfold cmpZ; rw [if_pos h]
theorem cmpZ_le (z y : Int) (h : z ≤ y) : cmpZ z y ≤ 0 := by unfold cmpZ; split <;> (try split) <;> omega
theorem cmpZ_ge (z y : Int) (h : y ≤ z) : 0 ≤ cmpZ z y := by unfold cmpZ; split <;> (try split) <;> omega
theorem Sm.int (n : Nat) (h : n ≤ 9223372036854775808) : Sm n := by
  refine Sm.of (Nat.lt_of_lt_of_le ?_ (Big.pw_mono (show 5 ≤ 1000000 by decide)))
  show n < 65536 ^ 5
  omega
theorem Nums.drop_step (l : List Nat) (k : Nat) (h : k < l.length) : Big.val (l.drop k) = l.getD k 0 + 65536 * Big.val (l.drop (k + 1)) := by
  rw [List.drop_eq_getElem_cons h, List.getD_eq_getElem?_getD, List.getElem?_eq_getElem h]; rfl
theorem val_drop_le (l : List Nat) : ∀ k, Big.val (l.drop k) ≤ Big.val l := by
  induction l with
  | nil => intro k; simp
  | cons d t ih =>
    intro k
    cases k with
    | zero => simp
    | succ j => have := ih j; simp only [List.drop_succ_cons]; show _ ≤ d + 65536 * Big.val t; omega
theorem one_cells64 {w w' : World} {x1 y1 : Value} (hb : Below (w.heap.size + 1) (w.alloc (.cells #[x1, y1] 122)) w') :
    w'.cell? ⟨w.heap.size, 0, none⟩ = some x1 ∧ w'.cell? ⟨w.heap.size, 1, none⟩ = some y1 := by
  have B1 : Mem.Blk w' w.heap.size 122 #[x1, y1] := ((Mem.Blk.new w 122 #[x1, y1])).call hb (by omega)
  exact ⟨B1.two.1, B1.two.2.1⟩
theorem wrapneg64 (n : Nat) (h : n ≤ 9223372036854775808) : IntKind.i64.wrap (IntKind.u64.wrap (-(n : Int))) = -(n : Int) := by
  simp only [IntKind.wrap_u64, IntKind.wrap_i64]; omega
theorem c_le (c : Int) (h : c ≤ 0) : decide (0 < c) = false := by simp; omega
theorem c_ge (c : Int) (h : 0 ≤ c) : decide (c < 0) = false := by simp; omega
set_option maxRecDepth 100000 in
set_option maxHeartbeats 4000000 in
theorem small_le (v : Value) (z : Int) (w : World) (hv : BigR w v z) (hz : Sm z.natAbs) (hle : z ≤ 9223372036854775807) :
    Calls Tryz.prog 47 #[v] w fun e w' => e = .returned (.tuple #[.int .i64 (smN z), .bool (smB z)]) ∧ Below w.heap.size w w' := by
  have HV := Lib.hid hv
  have HZ := Lib.hid hz
  have HM := Lib.hid (Sm.int (-9223372036854775807 : Int).natAbs (by decide))
  have HM2 := Lib.hid (Sm.int (-(-9223372036854775808) : Int).natAbs (by decide))
  have HLE := Lib.hid hle
  obtain ⟨c, hc, hc0⟩ : ∃ c, cmpZ z 9223372036854775807 = c ∧ decide (0 < c) = false := ⟨_, rfl, c_le _ (cmpZ_le _ _ hle)⟩
  have HC := Lib.hid hc
  obtain ⟨m, rfl, a, len, cap, l, rfl, h1, h2, h3⟩ := hv
  have HN := Lib.hid h1
  have HO := Lib.hid h2
  have HL := Lib.hid h3
  have hl2 := h1.2.1
  have hl3 := h1.2.2.1
  clear h1 h2 h3 hz hle hc
  have HS := Lib.hid (rfl : decide (z < 0) = decide (z < 0))
  generalize hs : decide (z < 0) = s at *
  have HS := Lib.hid hs
  clear hs
  have T := Lib.hid (((Below.refl _ w).alloc (Nat.le_refl _) (.cells #[.bool s, .slice a len cap] 122)) : Below w.heap.size w _)
  have TC := Lib.hid (fun w' hb => one_cells64 (w := w) (w' := w') (x1 := .bool s) (y1 := .slice a len cap) hb)
  have TS := Lib.hid (show (w.alloc (.cells #[.bool s, .slice a len cap] 122)).heap.size = w.heap.size + 1 by simp)
  by_cases hlt : z < -9223372036854775808
  · have FIN := Lib.hid (sm_no z (by omega))
    have HD := Lib.hid (cmpZ_lt z (-9223372036854775808) hlt)
    clear hlt
    go_enter Tryz.func47, Tryz.ntmps47
    go_wp2_with fail
    obtain ⟨p1, p2⟩ := TC.out _ (Below.refl _ _)
    generalize (w.alloc (.cells #[.bool s, .slice a len cap] 122)) = v at *
    first
    | go_region_held3 (fun w' => w'.cell? ⟨w.heap.size, 0, none⟩ = some (.bool s) ∧ w'.cell? ⟨w.heap.size, 1, none⟩ = some (.slice a len cap)) (first | exact ⟨j1, j2⟩ | exact ⟨i1, i2⟩ | exact ⟨g1, g2⟩ | exact ⟨d1, d2⟩ | go_keep)
      (first
        | (go_at_call 46
           (with_reducible refine (bigof_any 9223372036854775807 _ (by decide) (by decide)).mono ?_)
           rintro e w1 ⟨⟨r, rfl, hr⟩, b1⟩
           have k1 : Below (w.heap.size + 1) v w1 := ((Below.refl _ v).drew).trans (b1.mono (Nat.le_of_eq TS.out.symm))
           have k0 : Below w.heap.size w w1 := T.out.trans (k1.mono (by omega))
           obtain ⟨d1, d2⟩ := TC.out w1 k1)
        | (go_at_call 77
           (with_reducible refine (bigcmp_any _ _ z 9223372036854775807 _ (HV.out.below k0) hr HZ.out HM.out).mono ?_)
           rintro e w2 ⟨rfl, b2⟩
           have k2 : Below (w.heap.size + 1) v w2 := k1.trans (b2.mono (Nat.le_trans (Nat.le_of_eq TS.out.symm) k1.size))
           obtain ⟨g1, g2⟩ := TC.out w2 k2
           rw [HC.out])
        | (go_at_call 46
           (with_reducible refine (bigof_any (-9223372036854775808) _ (by decide) (by decide)).mono ?_)
           rintro e w3 ⟨⟨r3, rfl, hr3⟩, b3⟩
           have k3 : Below (w.heap.size + 1) v w3 := k2.trans (b3.mono (Nat.le_trans (Nat.le_of_eq TS.out.symm) k2.size))
           have k30 : Below w.heap.size w w3 := T.out.trans (k3.mono (by omega))
           obtain ⟨i1, i2⟩ := TC.out w3 k3)
        | (go_at_call 77
           (with_reducible refine (bigcmp_any _ _ z (-9223372036854775808) _ (HV.out.below k30) hr3 HZ.out HM2.out).mono ?_)
           rintro e w4 ⟨rfl, b4⟩
           have k4 : Below (w.heap.size + 1) v w4 := k3.trans (b4.mono (Nat.le_trans (Nat.le_of_eq TS.out.symm) k3.size))
           obtain ⟨j1, j2⟩ := TC.out w4 k4
           rw [HD.out]))
    | fail "region"
    all_goals
      have K := Lib.hid (T.out.trans (k4.mono (by omega)))
      clear TC HV hr k0 k1 k2 k3 k4 b1 b2 b3 b4 d1 d2 g1 g2 i1 i2 j1 j2 p1 p2 k30
      go_wp2
      go_ret2
      exact ⟨FIN.out, K.out⟩
  · have hle := HLE.out
    have FIN := Lib.hid (sm_yes z (by omega))
    have hlen : len ≤ 4 := MagR.small HN.out HO.out (by rw [HL.out]; show _ < 65536 ^ 4; omega)
    have HV4 := Lib.hid (show Big.val l ≤ 9223372036854775808 by rw [HL.out]; omega)
    obtain ⟨c', hc', hc0'⟩ : ∃ c', cmpZ z (-9223372036854775808) = c' ∧ decide (c' < 0) = false := ⟨_, rfl, c_ge _ (cmpZ_ge _ _ (by omega))⟩
    have HD := Lib.hid hc'
    have HLT := Lib.hid hlt
    clear hlt hc' hle
    go_enter Tryz.func47, Tryz.ntmps47
    go_wp2_with fail
    obtain ⟨p1, p2⟩ := TC.out _ (Below.refl _ _)
    generalize (w.alloc (.cells #[.bool s, .slice a len cap] 122)) = v at *
    first
    | go_region_held3 (fun w' => w'.cell? ⟨w.heap.size, 0, none⟩ = some (.bool s) ∧ w'.cell? ⟨w.heap.size, 1, none⟩ = some (.slice a len cap)) (first | exact ⟨j1, j2⟩ | exact ⟨i1, i2⟩ | exact ⟨g1, g2⟩ | exact ⟨d1, d2⟩ | go_keep)
      (first
        | (go_at_call 46
           (with_reducible refine (bigof_any 9223372036854775807 _ (by decide) (by decide)).mono ?_)
           rintro e w1 ⟨⟨r, rfl, hr⟩, b1⟩
           have k1 : Below (w.heap.size + 1) v w1 := ((Below.refl _ v).drew).trans (b1.mono (Nat.le_of_eq TS.out.symm))
           have k0 : Below w.heap.size w w1 := T.out.trans (k1.mono (by omega))
           obtain ⟨d1, d2⟩ := TC.out w1 k1)
        | (go_at_call 77
           (with_reducible refine (bigcmp_any _ _ z 9223372036854775807 _ (HV.out.below k0) hr HZ.out HM.out).mono ?_)
           rintro e w2 ⟨rfl, b2⟩
           have k2 : Below (w.heap.size + 1) v w2 := k1.trans (b2.mono (Nat.le_trans (Nat.le_of_eq TS.out.symm) k1.size))
           obtain ⟨g1, g2⟩ := TC.out w2 k2
           rw [HC.out])
        | (go_at_call 46
           (with_reducible refine (bigof_any (-9223372036854775808) _ (by decide) (by decide)).mono ?_)
           rintro e w3 ⟨⟨r3, rfl, hr3⟩, b3⟩
           have k3 : Below (w.heap.size + 1) v w3 := k2.trans (b3.mono (Nat.le_trans (Nat.le_of_eq TS.out.symm) k2.size))
           have k30 : Below w.heap.size w w3 := T.out.trans (k3.mono (by omega))
           obtain ⟨i1, i2⟩ := TC.out w3 k3)
        | (go_at_call 77
           (with_reducible refine (bigcmp_any _ _ z (-9223372036854775808) _ (HV.out.below k30) hr3 HZ.out HM2.out).mono ?_)
           rintro e w4 ⟨rfl, b4⟩
           have k4 : Below (w.heap.size + 1) v w4 := k3.trans (b4.mono (Nat.le_trans (Nat.le_of_eq TS.out.symm) k3.size))
           obtain ⟨j1, j2⟩ := TC.out w4 k4
           rw [HD.out]))
    | fail "region"
    all_goals
      have K4 := Lib.hid k4
      have K := Lib.hid (T.out.trans (k4.mono (by omega)))
      clear HV hr k0 k1 k2 k3 k4 b1 b2 b3 b4 d1 d2 g1 g2 i1 i2 j1 j2 p1 p2 k30
      have T4 : Below w.heap.size w w4 := K.out
      have J1 := (TC.out w4 K4.out).1
      have J2 := (TC.out w4 K4.out).2
      go_wp2_with fail
      go_loop [4, 5] (fun u i => ∃ k : Nat, i = .int .i64 ((k : Int) - 1) ∧ k ≤ len ∧ u = .int .u64 (Big.val (l.drop k) : Nat)) (fun _ i => (intOf i + 1).toNat)
      case atStart => exact ⟨len, by go_num, Nat.le_refl _, by rw [List.drop_of_length_le (by rw [HN.out.1]; exact Nat.le_refl _)]; rfl⟩
      case round =>
        obtain ⟨k, rfl, hk, rfl⟩ := hrel
        have hle1 := Nat.le_trans (val_drop_le l k) HV4.out
        cases k with
        | zero =>
          cases s with
          | false =>
            have FIN2 := Lib.hid (FIN.out (wrap64 (Big.val (l.drop 0) : Nat)) (by have h1 := HS.out; have h2 := HL.out; have h3 := HLE.out; simp at h1; simp only [List.drop_zero, wrap64]; omega))
            generalize Big.val (l.drop 0) = x at *
            go_wp2
            go_ret2
            exact ⟨FIN2.out, K.out⟩
          | true =>
            have FIN2 := Lib.hid (FIN.out (wrap64 (IntKind.u64.wrap (-(Big.val (l.drop 0) : Nat)))) (by have h1 := HS.out; have h2 := HL.out; have h3 := HLT.out; simp at h1; simp only [List.drop_zero, wrap64, IntKind.wrap_u64]; omega))
            generalize Big.val (l.drop 0) = x at *
            go_wp2
            go_ret2
            exact ⟨FIN2.out, K.out⟩
        | succ j =>
          obtain ⟨b, o, rfl, hb, hc⟩ := (HN.out.below T4).at j (by omega)
          have hst := Nums.drop_step l j (by rw [HN.out.1]; exact hk)
          have hle2 := Nat.le_trans (val_drop_le l j) HV4.out
          have REL := Lib.hid hst
          generalize l.getD j 0 = x at *
          generalize Big.val (l.drop (j + 1)) = y at *
          generalize hvv : Big.val (l.drop j) = vv at *
          have HVV := Lib.hid hvv
          clear hvv
          go_wp2
          go_round
          case rel => exact ⟨j, by go_num, by omega, by rw [HVV.out, REL.out]; go_num⟩
          case measure => simp [intOf]
end Go.Proofs.YtmiinmndbkdjbaaGreat

/- Small of a number above all int64s, and of any. -/
namespace Go.Proofs.YtmiinmndbkdjbaaGreat
set_option linter.unusedVariables false
set_option linter.unusedSimpArgs false
open Go.RowKit
set_option maxRecDepth 100000 in
set_option maxHeartbeats 4000000 in
theorem small_gt (v : Value) (z : Int) (w : World) (hv : BigR w v z) (hz : Sm z.natAbs) (hgt : 9223372036854775807 < z) :
    Calls Tryz.prog 47 #[v] w fun e w' => e = .returned (.tuple #[.int .i64 (smN z), .bool (smB z)]) ∧ Below w.heap.size w w' := by
  have FIN := Lib.hid (sm_no z (by omega))
  have HC := Lib.hid (cmpZ_gt z 9223372036854775807 hgt)
  have HV := Lib.hid hv
  have HZ := Lib.hid hz
  have HM := Lib.hid (Sm.int (-9223372036854775807 : Int).natAbs (by decide))
  obtain ⟨m, rfl, a, len, cap, l, rfl, h1, h2, h3⟩ := hv
  clear h1 h2 h3 hz hgt
  generalize decide (z < 0) = s at *
  have T := Lib.hid (((Below.refl _ w).alloc (Nat.le_refl _) (.cells #[.bool s, .slice a len cap] 122)) : Below w.heap.size w _)
  have BX := Lib.hid (Mem.Blk.new w 122 #[.bool s, .slice a len cap])
  go_enter Tryz.func47, Tryz.ntmps47
  go_wp2_with fail
  generalize (w.alloc (.cells #[.bool s, .slice a len cap] 122)) = v at *
  obtain ⟨c0, c1, -, -⟩ := BX.out.two
  refine wp_region_till (S := fun W => W.cell? ⟨w.heap.size, 0, none⟩ = some (.bool s) ∧ W.cell? ⟨w.heap.size, 1, none⟩ = some (.slice a len cap)) 9 (by kernel_rfl) ?_
  refine till_take (i := 0) (v := ?_) rfl (by kernel_rfl) (fun _ _ _ h => h) (Or.inl ⟨by rfl, ?_⟩) ⟨c0,c1⟩ ?_
  rotate_left
  · intro W hS
    try dsimp only at hS
    go_split_ands
    go_simp
    try with_reducible rfl
  try simp only [Act.put, List.getElem_toArray, List.getElem_cons_zero, List.getElem_cons_succ, List.setIfInBounds_toArray, List.set_cons_zero, List.set_cons_succ]
  refine till_one (i := 1) (by kernel_rfl) rfl (fun K' hK => ?_)
  go_simp
  go_at_call 46
  (with_reducible refine (bigof_any 9223372036854775807 _ (by decide) (by decide)).mono ?_)
  rintro e w1 ⟨⟨r, rfl, hr⟩, b1⟩
  have K1 : Hid (Below v.heap.size v w1) := ((Below.refl _ v).drew).trans b1
  have HR1 := Lib.hid hr
  clear b1 hr c0 c1
  obtain ⟨c0, c1, -, -⟩ := (BX.out.below K1.out).two
  refine hK _ _ ⟨c0, c1⟩ ?_
  clear hK K'
  try simp only [Act.put, List.getElem_toArray, List.getElem_cons_zero, List.getElem_cons_succ, List.setIfInBounds_toArray, List.set_cons_zero, List.set_cons_succ]
  refine till_one (i := 2) (by kernel_rfl) rfl (fun K' hK => ?_)
  go_simp
  go_at_call 77
  (with_reducible refine (bigcmp_any _ _ z 9223372036854775807 _ (HV.out.below (T.out.trans (K1.out.mono T.out.size))) HR1.out HZ.out HM.out).mono ?_)
  rintro e w2 ⟨rfl, b2⟩
  rw [HC.out]
  have K2 := Lib.hid (K1.out.trans (b2.mono K1.out.size))
  clear b2 c0 c1 K1 HR1
  obtain ⟨c0, c1, -, -⟩ := (BX.out.below K2.out).two
  refine hK _ _ ⟨c0, c1⟩ ?_
  clear hK K'
  try simp only [Act.put, List.getElem_toArray, List.getElem_cons_zero, List.getElem_cons_succ, List.setIfInBounds_toArray, List.set_cons_zero, List.set_cons_succ]
  refine till_take (i := 3) (v := ?_) rfl (by kernel_rfl) (fun _ _ _ h => h) (Or.inl ⟨by rfl, ?_⟩) ⟨c0,c1⟩ ?_
  rotate_left
  · intro W hS
    try dsimp only at hS
    go_split_ands
    go_simp
    try with_reducible rfl
  try simp only [Act.put, List.getElem_toArray, List.getElem_cons_zero, List.getElem_cons_succ, List.setIfInBounds_toArray, List.set_cons_zero, List.set_cons_succ]
  refine till_take (i := 4) (v := ?_) rfl (by kernel_rfl) (fun _ _ _ h => h) (Or.inl ⟨by rfl, ?_⟩) ⟨c0,c1⟩ ?_
  rotate_left
  · intro W hS
    try dsimp only at hS
    go_split_ands
    go_simp
    try with_reducible rfl
  try simp only [Act.put, List.getElem_toArray, List.getElem_cons_zero, List.getElem_cons_succ, List.setIfInBounds_toArray, List.set_cons_zero, List.set_cons_succ]
  refine till_take (i := 5) (v := undef) rfl (by kernel_rfl) (fun _ _ _ h => h) (Or.inr ⟨by rfl, rfl⟩) ⟨c0,c1⟩ ?_
  try simp only [Act.put, List.getElem_toArray, List.getElem_cons_zero, List.getElem_cons_succ, List.setIfInBounds_toArray, List.set_cons_zero, List.set_cons_succ]
  refine till_one (i := 6) (by kernel_rfl) rfl (fun K' hK => ?_)
  go_simp
  refine hK _ _ ⟨c0,c1⟩ ?_
  clear hK K'
  try simp only [Act.put, List.getElem_toArray, List.getElem_cons_zero, List.getElem_cons_succ, List.setIfInBounds_toArray, List.set_cons_zero, List.set_cons_succ]
  refine till_one (i := 7) (by kernel_rfl) rfl (fun K' hK => ?_)
  go_simp
  refine hK _ _ ⟨c0,c1⟩ ?_
  clear hK K'
  try simp only [Act.put, List.getElem_toArray, List.getElem_cons_zero, List.getElem_cons_succ, List.setIfInBounds_toArray, List.set_cons_zero, List.set_cons_succ]
  refine till_take (i := 8) (v := undef) rfl (by kernel_rfl) (fun _ _ _ h => h) (Or.inr ⟨by rfl, rfl⟩) ⟨c0,c1⟩ ?_
  try simp only [Act.put, List.getElem_toArray, List.getElem_cons_zero, List.getElem_cons_succ, List.setIfInBounds_toArray, List.set_cons_zero, List.set_cons_succ]
  refine till_last (by kernel_rfl) rfl (by kernel_rfl) (fun K' hK => ?_)
  go_simp
  refine hK _ _ ?_
  clear hK K'
  try simp only [Act.put, List.getElem_toArray, List.getElem_cons_zero, List.getElem_cons_succ, List.setIfInBounds_toArray, List.set_cons_zero, List.set_cons_succ]
  refine wpAny_done (by kernel_rfl) ?_ _
  have K := Lib.hid (T.out.trans (K2.out.mono T.out.size))
  clear c0 c1 K2 BX T
  go_wp2_with fail
  go_ret2
  exact ⟨FIN.out, K.out⟩
theorem small_any (v : Value) (z : Int) (w : World) (hv : BigR w v z) (hz : Sm z.natAbs) :
    Calls Tryz.prog 47 #[v] w fun e w' => e = .returned (.tuple #[.int .i64 (smN z), .bool (smB z)]) ∧ Below w.heap.size w w' := by
  by_cases h : 9223372036854775807 < z
  · exact small_gt v z w hv hz h
  · exact small_le v z w hv hz (by omega)
end Go.Proofs.YtmiinmndbkdjbaaGreat
