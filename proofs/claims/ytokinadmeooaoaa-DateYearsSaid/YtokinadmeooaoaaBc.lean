import Derived.Test.YtokinadmeooaoaaBb
import Derived.Deep.AppendLies
import Derived.StillTailTactics
namespace Go.Proofs.Ytokinadmeooaoaa
open Go.RowKit
theorem info73 : (Try.prog.info? 73).map (fun i => (i.zero, i.size, i.bytes)) = some (some (.int .u64 0), 1, 8) := by kernel_rfl
def dv (l : List Nat) : List Value := l.map (fun d => Value.int .u64 (d : Nat))
theorem dv_one (l : List Nat) : ∀ u ∈ dv l, u.oneCell' = true := by intro u h; unfold dv at h; simp at h; obtain ⟨_, _, rfl⟩ := h; rfl
theorem dv_app (a b : List Nat) : dv a ++ dv b = dv (a ++ b) := by simp [dv]
theorem own_nums {w0 w : World} {v : Value} {n : Nat} {l : List Nat} (h : Mem.Own w0 w 73 1 v n (dv l)) (hn : l.length = n) : ∃ a cap, v = .slice a n cap ∧ Nums w a n cap l := by
  have hmx : maxLen = 9223372036854775807 := by decide
  rcases h.own.2 with ⟨rfl, rfl⟩ | ⟨g, cap, cur, rfl, h1, h2, h3, h4, h5, h6⟩
  · exact ⟨none, 0, rfl, hn, by omega, by omega, fun h => absurd h (by omega)⟩
  · refine ⟨_, cap, rfl, hn, h3, by omega, fun hp => ⟨g, 0, rfl, lt_of_block h2, fun i x hx => ?_⟩⟩
    have hi : i < l.length := (List.getElem?_eq_some_iff.1 hx).1
    rw [Nat.zero_add, h.cell i (by omega)]
    simp [dv, hx]
theorem digs_cells (w : World) (x : Nat) (z : Int) (hz : z = (x : Int)) : ∀ j u, (dv [x])[j]? = some u → (w.alloc (.cells #[.int .u64 z] 73)).cell? ((⟨w.heap.size, 0, none⟩ : Addr).add j) = some u := by
  subst hz; exact Mem.lit_cells w #[.int .u64 (x : Int)] 73
theorem getD_end (l : List Nat) (k : Nat) (h : l.length ≤ k) : l.getD k 0 = 0 := by
  rw [List.getD_eq_getElem?_getD, List.getElem?_eq_none h]; rfl
theorem mlen : maxLen = 9223372036854775807 := by decide
set_option maxHeartbeats 4000000 in
theorem sub_in (a : Option Addr) (len cap : Nat) (l : List Nat) (a' : Option Addr) (len' cap' : Nat) (l' : List Nat) (w : World) (hl : Nums w a len cap l) (hl' : Nums w a' len' cap' l') (hn : Big.Dig l) (hn' : Big.Dig l') (hm : len ≤ 1000000) (hlen : len' ≤ len) :
    Calls Try.prog 64 #[.slice a len cap, .slice a' len' cap'] w fun e w' => (∃ out b cap2, e = .returned (.slice b (Big.trim out).length cap2) ∧ Nums w' b (Big.trim out).length cap2 (Big.trim out) ∧ Big.Dig out ∧ Hid (∃ c, c ≤ 1 ∧ Big.val out + Big.val l' = Big.val l + c * Big.pw len) ∧ out.length = len) ∧ Below w.heap.size w w' := by
  have h2 := hl.2.1
  have h3 := hl.2.2.1
  have h2' := hl'.2.1
  have h3' := hl'.2.2.1
  have HL := Lib.hid hl
  have HL' := Lib.hid hl'
  have HD := Lib.hid hn
  have HD' := Lib.hid hn'
  have H1 := Lib.hid hl.1
  have H1' := Lib.hid hl'.1
  have HS := Lib.hid (fun out i borrow hb hl hinv => Big.sub_step out l l' i borrow hb hn hn' hl hinv)
  clear hl hl' hn hn'
  go_enter Try.func64, Try.ntmps64
  go_wp2_with fail
  go_loopw [5, 6, 7] (fun v c i wr => ∃ (k b : Nat) (out : List Nat), i = .int .i64 (k : Nat) ∧ c = .int .u64 (b : Nat) ∧ k ≤ len ∧ b ≤ 1 ∧ Hid (Mem.Own w wr 73 1 v k (dv out)) ∧ Hid (out.length = k) ∧ Hid (Big.Dig out) ∧ Hid (Big.val out + Big.val (l'.take k) = Big.val (l.take k) + b * Big.pw k)) (fun _ _ i _ => len - (intOf i).toNat)
  case atStart => exact ⟨0, 0, [], rfl, rfl, Nat.zero_le _, by omega, Mem.Own.nil (Below.refl _ _), rfl, Big.Dig.nil, by show _ = _; simp [Big.val]⟩
  case round =>
    obtain ⟨k, b, out, rfl, rfl, hk, hb, HO, HK, HG, HI⟩ := hrel
    have hbel := HO.out.below
    by_cases hlt : k < len
    · obtain ⟨bb, o, rfl, hbb, hc⟩ := (HL.out.below hbel).at k hlt
      have hx := HD.out.getD k
      have HS2 := Lib.hid (HS.out out k b hb HK.out HI.out)
      have hD : Hid (Big.Dig (out ++ [(65536 + l.getD k 0 - b - l'.getD k 0) % 65536])) := by
        refine HG.out.append ?_
        intro d hd; simp at hd; subst hd; exact Nat.mod_lt _ (by decide)
      have hy := HD'.out.getD k
      by_cases hlt' : k < len'
      · obtain ⟨bb', o', rfl, hbb', hc'⟩ := (HL'.out.below hbel).at k hlt'
        clear HS HD HD'
        generalize l.getD k 0 = x at *
        generalize l'.getD k 0 = y at *
        go_wp2_with (at_builtin; refine Mem.ap info73 Try.underlying62 rfl (by decide) rfl (.tmp 32) (.tmp 35) rfl rfl (HO.out.alloc _) ⟨wr.heap.size, 0, none⟩ 1 1 (dv [(65536 + x - b - y) % 65536]) rfl rfl (digs_cells _ _ _ (by omega)) (dv_one _) (by rw [mlen]; omega) (by omega) ?_; intro v' w' o' _ _ _; rw [dv_app] at o')
        go_roundw
        case rel => exact ⟨k + 1, 1 - (65536 + x - b - y) / 65536, out ++ [(65536 + x - b - y) % 65536], by go_num, by congr 1; omega, by omega, by omega, o', by show _ = _; rw [List.length_append, HK.out]; rfl, hD, HS2.out⟩
        case measure => simp [intOf]; omega
      · have e0 := getD_end l' k (by rw [H1'.out]; omega)
        rw [e0] at HS2 hD
        clear HS HD HD' e0 hy
        generalize l.getD k 0 = x at *
        go_wp2_with (at_builtin; refine Mem.ap info73 Try.underlying62 rfl (by decide) rfl (.tmp 32) (.tmp 35) rfl rfl (HO.out.alloc _) ⟨wr.heap.size, 0, none⟩ 1 1 (dv [(65536 + x - b - 0) % 65536]) rfl rfl (digs_cells _ _ _ (by omega)) (dv_one _) (by rw [mlen]; omega) (by omega) ?_; intro v' w' o' _ _ _; rw [dv_app] at o')
        go_roundw
        case rel => exact ⟨k + 1, 1 - (65536 + x - b - 0) / 65536, out ++ [(65536 + x - b - 0) % 65536], by go_num, by congr 1; omega, by omega, by omega, o', by show _ = _; rw [List.length_append, HK.out]; rfl, hD, HS2.out⟩
        case measure => simp [intOf]; omega
    · have FIN : Hid (∃ c, c ≤ 1 ∧ Big.val out + Big.val l' = Big.val l + c * Big.pw len) := by
        have : k = len := by omega
        subst this
        refine ⟨b, hb, ?_⟩
        have h := HI.out
        rw [List.take_of_length_le (by rw [H1'.out]; exact hlen), List.take_of_length_le (by rw [H1.out]; exact Nat.le_refl _)] at h
        exact h
      obtain ⟨ao, co, rfl, hno⟩ := own_nums HO.out HK.out
      have HNO := Lib.hid hno
      have hke := Lib.hid (show k = len by omega)
      clear hno
      go_wp2_with fail
      refine (trim_any _ _ _ out _ HNO.out).mono ?_; rintro e w' ⟨rfl, rfl⟩
      go_wp2
      go_ret
      refine ⟨⟨out, _, _, rfl, ?_, HG.out, FIN, by rw [HK.out, hke.out]⟩, hbel⟩
      have := HNO.out.take (Big.trim out).length (by rw [← HK.out]; exact trim_le out)
      rw [← trim_len] at this
      exact this
end Go.Proofs.Ytokinadmeooaoaa
