import Derived.Test.YtokinadmeooaoaaBc
namespace Go.Proofs.Ytokinadmeooaoaa
open Go.RowKit
set_option maxHeartbeats 4000000 in
theorem add_in (a : Option Addr) (len cap : Nat) (l : List Nat) (a' : Option Addr) (len' cap' : Nat) (l' : List Nat) (w : World) (hl : Nums w a len cap l) (hl' : Nums w a' len' cap' l') (hn : Big.Dig l) (hn' : Big.Dig l') (hm : len ≤ 1000000) (hm' : len' ≤ 1000000) :
    Calls Try.prog 62 #[.slice a len cap, .slice a' len' cap'] w fun e w' => (∃ out b cap2, e = .returned (.slice b (Big.trim out).length cap2) ∧ Nums w' b (Big.trim out).length cap2 (Big.trim out) ∧ Big.Dig out ∧ Hid (Big.val out = Big.val l + Big.val l') ∧ out.length ≤ 1000001) ∧ Below w.heap.size w w' := by
  have h2 := hl.2.1
  have h3 := hl.2.2.1
  have h2' := hl'.2.1
  have h3' := hl'.2.2.1
  have HL := Lib.hid hl
  have HL' := Lib.hid hl'
  have HD := Lib.hid hn
  have HD' := Lib.hid hn'
  have H1 := Lib.hid hl.1
  have H1' := Lib.hid hl'.1
  have HS := Lib.hid (fun out i carry hl hinv => Big.add_step out l l' i carry hl hinv)
  clear hl hl' hn hn'
  obtain ⟨mx, hmx, m1, m2⟩ : ∃ mx, mx ≤ 1000000 ∧ len ≤ mx ∧ len' ≤ mx := ⟨max len len', by omega, by omega, by omega⟩
  go_enter Try.func62, Try.ntmps62
  go_wp2_with fail
  go_loopw [5, 6, 7] (fun v c i wr => ∃ (k b : Nat) (out : List Nat), i = .int .i64 (k : Nat) ∧ c = .int .u64 (b : Nat) ∧ k ≤ mx + 1 ∧ b ≤ 1 ∧ (mx < k → b = 0) ∧ Hid (Mem.Own w wr 73 1 v k (dv out)) ∧ Hid (out.length = k) ∧ Hid (Big.Dig out) ∧ Hid (Big.val out + b * Big.pw k = Big.val (l.take k) + Big.val (l'.take k))) (fun _ _ i _ => mx + 1 - (intOf i).toNat)
  case atStart => exact ⟨0, 0, [], rfl, rfl, Nat.zero_le _, by omega, by omega, Mem.Own.nil (Below.refl _ _), rfl, Big.Dig.nil, by show _ = _; simp [Big.val]⟩
  case round =>
    obtain ⟨k, b, out, rfl, rfl, hk, hb, hbk, HO, HK, HG, HI⟩ := hrel
    have hbel := HO.out.below
    have hx := HD.out.getD k
    have hy := HD'.out.getD k
    have HS2 := Lib.hid (HS.out out k b HK.out HI.out)
    have hD : Hid (Big.Dig (out ++ [(b + l.getD k 0 + l'.getD k 0) % 65536])) := by
      refine HG.out.append ?_
      intro d hd; simp at hd; subst hd; exact Nat.mod_lt _ (by decide)
    by_cases hlt : k < len
    · obtain ⟨bb, o, rfl, hbb, hc⟩ := (HL.out.below hbel).at k hlt
      by_cases hlt' : k < len'
      · obtain ⟨bb', o', rfl, hbb', hc'⟩ := (HL'.out.below hbel).at k hlt'
        clear HS HD HD'
        generalize l.getD k 0 = x at *
        generalize l'.getD k 0 = y at *
        go_wp2_with (at_builtin; refine Mem.ap info73 Try.underlying62 rfl (by decide) rfl (.tmp 46) (.tmp 49) rfl rfl (HO.out.alloc _) ⟨wr.heap.size, 0, none⟩ 1 1 (dv [(b + x + y) % 65536]) rfl rfl (digs_cells _ _ _ (by omega)) (dv_one _) (by rw [mlen]; omega) (by omega) ?_; intro v' w' o' _ _ _; rw [dv_app] at o')
        go_roundw
        case rel => exact ⟨k + 1, (b + x + y) / 65536, out ++ [(b + x + y) % 65536], by go_num, by first | rfl | (congr 1; omega), by omega, by omega, by omega, o', by show _ = _; rw [List.length_append, HK.out]; rfl, hD, HS2.out⟩
        case measure => simp [intOf]; omega
      · have e0 := getD_end l' k (by rw [H1'.out]; omega)
        rw [e0] at HS2 hD
        clear HS HD HD' e0 hy
        generalize l.getD k 0 = x at *
        go_wp2_with (at_builtin; refine Mem.ap info73 Try.underlying62 rfl (by decide) rfl (.tmp 46) (.tmp 49) rfl rfl (HO.out.alloc _) ⟨wr.heap.size, 0, none⟩ 1 1 (dv [(b + x + 0) % 65536]) rfl rfl (digs_cells _ _ _ (by omega)) (dv_one _) (by rw [mlen]; omega) (by omega) ?_; intro v' w' o' _ _ _; rw [dv_app] at o')
        go_roundw
        case rel => exact ⟨k + 1, (b + x + 0) / 65536, out ++ [(b + x + 0) % 65536], by go_num, by first | rfl | (congr 1; omega), by omega, by omega, by omega, o', by show _ = _; rw [List.length_append, HK.out]; rfl, hD, HS2.out⟩
        case measure => simp [intOf]; omega
    · have e0 := getD_end l k (by rw [H1.out]; omega)
      rw [e0] at HS2 hD
      clear e0 hx
      by_cases hlt' : k < len'
      · obtain ⟨bb', o', rfl, hbb', hc'⟩ := (HL'.out.below hbel).at k hlt'
        clear HS HD HD'
        generalize l'.getD k 0 = y at *
        go_wp2_with (at_builtin; refine Mem.ap info73 Try.underlying62 rfl (by decide) rfl (.tmp 46) (.tmp 49) rfl rfl (HO.out.alloc _) ⟨wr.heap.size, 0, none⟩ 1 1 (dv [(b + 0 + y) % 65536]) rfl rfl (digs_cells _ _ _ (by omega)) (dv_one _) (by rw [mlen]; omega) (by omega) ?_; intro v' w' o' _ _ _; rw [dv_app] at o')
        go_roundw
        case rel => exact ⟨k + 1, (b + 0 + y) / 65536, out ++ [(b + 0 + y) % 65536], by go_num, by first | rfl | (congr 1; omega), by omega, by omega, by omega, o', by show _ = _; rw [List.length_append, HK.out]; rfl, hD, HS2.out⟩
        case measure => simp [intOf]; omega
      · have e0 := getD_end l' k (by rw [H1'.out]; omega)
        rw [e0] at HS2 hD
        clear HS HD HD' e0 hy
        by_cases hb1 : b = 1
        · subst hb1
          go_wp2_with (at_builtin; refine Mem.ap info73 Try.underlying62 rfl (by decide) rfl (.tmp 46) (.tmp 49) rfl rfl (HO.out.alloc _) ⟨wr.heap.size, 0, none⟩ 1 1 (dv [(1 + 0 + 0) % 65536]) rfl rfl (digs_cells _ _ _ (by omega)) (dv_one _) (by rw [mlen]; omega) (by omega) ?_; intro v' w' o' _ _ _; rw [dv_app] at o')
          go_roundw
          case rel => exact ⟨k + 1, (1 + 0 + 0) / 65536, out ++ [(1 + 0 + 0) % 65536], by go_num, by first | rfl | (congr 1; omega), by omega, by omega, by omega, o', by show _ = _; rw [List.length_append, HK.out]; rfl, hD, HS2.out⟩
          case measure => simp [intOf]; omega
        · obtain rfl : b = 0 := by omega
          have FIN : Hid (Big.val out = Big.val l + Big.val l') := by
            have h := HI.out
            rw [List.take_of_length_le (by rw [H1.out]; omega), List.take_of_length_le (by rw [H1'.out]; omega)] at h
            show _ = _
            omega
          obtain ⟨ao, co, rfl, hno⟩ := own_nums HO.out HK.out
          have HNO := Lib.hid hno
          clear hno
          go_wp2_with fail
          refine (trim_any _ _ _ out _ HNO.out).mono ?_; rintro e w' ⟨rfl, rfl⟩
          go_wp2
          go_ret
          refine ⟨⟨out, _, _, rfl, ?_, HG.out, FIN, by rw [HK.out]; omega⟩, hbel⟩
          have := HNO.out.take (Big.trim out).length (by rw [← HK.out]; exact trim_le out)
          rw [← trim_len] at this
          exact this
end Go.Proofs.Ytokinadmeooaoaa
