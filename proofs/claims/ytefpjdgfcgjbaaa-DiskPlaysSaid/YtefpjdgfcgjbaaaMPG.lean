/- A part of the proof: DkSafe, DkNm, DkMr, DkMs, one behind another. -/
import Derived.Test.YtefpjdgfcgjbaaaMPA
import Derived.Test.YtefpjdgfcgjbaaaMPB
import Derived.Test.YtefpjdgfcgjbaaaMPC
import Derived.Test.YtefpjdgfcgjbaaaMPD
import Derived.Test.YtefpjdgfcgjbaaaMPE
import Derived.Test.YtefpjdgfcgjbaaaMPF
import Derived.Deep.QuietTactic
import Derived.BigQuiet
import Derived.StillTailTactics
/- The walk of DiskSafe. -/
namespace Go.Proofs.Ytefpjdgfcgjbaaa
set_option linter.unusedVariables false
set_option linter.unusedSimpArgs false
open Go.RowKit
def fS (t : Nm) (b : Nat) (d : ByteArray) (n : Nat) : Fi := ⟨t, d, n, b⟩
theorem findF_fS (t : Nm) (b : Nat) (d : ByteArray) (n : Nat) : findF [fS t b d n] t = some (fS t b d n) := findF_one (fS t b d n)
theorem safe_1 (mb b1 : Nat) (a : ByteArray) (h : a.size ≤ 300) : appendS b1 (newS 1000 mb) [102] a = (0, ⟨1000, (a.size : Nat), (a.size : Nat), 1, 0, false, false, [fS [102] b1 a 0], mb, 1⟩) := by
  rw [appendS_new rfl (by simp [newS]) rfl rfl (by show 0 < 200; omega) (by omega) (by show (a.size : Int) ≤ 1000 - 0; omega)]
  unfold bs newS fS insF
  simp
theorem safe_2 (mb b1 : Nat) (a : ByteArray) (u v : Int) : syncS ⟨1000, u, v, 1, 0, false, false, [fS [102] b1 a 0], mb, 1⟩ [102] = (0, ⟨1000, u, v, 2, 0, false, false, [fS [102] b1 a a.size], mb, 1⟩) := by
  rw [syncS_go rfl (by simp) rfl (findF_fS [102] b1 a 0)]
  rfl
theorem safe_3 (mb b1 b' : Nat) (a d : ByteArray) (ha : a.size ≤ 300) (hd : d.size ≤ 300) : appendS b' ⟨1000, (a.size : Nat), (a.size : Nat), 2, 0, false, false, [fS [102] b1 a a.size], mb, 1⟩ [102] d = (0, ⟨1000, (a.size : Nat) + (d.size : Nat), (a.size : Nat) + (d.size : Nat), 3, 0, false, false, [fS [102] b1 (a ++ d) a.size], mb, 2⟩) := by
  rw [appendS_more rfl (by simp) rfl (findF_fS [102] b1 a a.size) (by show a.size + d.size ≤ _; omega) (by show (d.size : Int) ≤ 1000 - (a.size : Nat); omega)]
  rfl
theorem safe_4 (mb b1 : Nat) (D : ByteArray) (n : Nat) (u v kb ks : Int) : crashS ⟨1000, u, v, 3, 0, false, false, [fS [102] b1 D n], mb, 2⟩ [(kb, ks)] = ⟨1000, (sumD [crashF kb ks (fS [102] b1 D n)] : Nat), v, 3, 0, false, false, [crashF kb ks (fS [102] b1 D n)], mb, 2⟩ := by
  unfold crashS
  dsimp only
  rw [crashFs_one]; rfl
theorem safe_5 (mb : Nat) (f : Fi) (hf : f.name = [102]) (u v : Int) : readS ⟨1000, u, v, 3, 0, false, false, [f], mb, 2⟩ [102] = (f.data, 0) := by
  have h : findF [f] [102] = some f := by rw [← hf]; exact findF_one f
  unfold readS
  dsimp only
  rw [h]; rfl
theorem bud1 (r u v c lf : Int) (o ar : Bool) (fs : List Fi) (mb mn : Nat) (hc : c ≤ 4611686018427387904) (hv : v ≤ 4611686018427387904) (hm : mn ≤ 1000000) : (⟨r, u, v, c, lf, o, ar, fs, mb, mn⟩ : St).calls ≤ 4611686018427387904 ∧ (⟨r, u, v, c, lf, o, ar, fs, mb, mn⟩ : St).written ≤ 4611686018427387904 ∧ (⟨r, u, v, c, lf, o, ar, fs, mb, mn⟩ : St).mn ≤ 1000000 := ⟨hc, hv, hm⟩
theorem len_one {r u v c lf : Int} {o ar : Bool} {f : Fi} {mb mn : Nat} : (⟨r, u, v, c, lf, o, ar, [f], mb, mn⟩ : St).fs.length ≤ 1000000 := by show 1 ≤ 1000000; decide
theorem safe_data (t : Nm) (b1 : Nat) (a d : ByteArray) (kb ks : Int) : a.size ≤ (crashF kb ks (fS t b1 (a ++ d) a.size)).data.size ∧ (crashF kb ks (fS t b1 (a ++ d) a.size)).data.size ≤ a.size + d.size ∧ (crashF kb ks (fS t b1 (a ++ d) a.size)).data.extract 0 a.size = a ∧
    ∀ (i : Nat) x, a.size ≤ i → (crashF kb ks (fS t b1 (a ++ d) a.size)).data.data.toList[i]? = some x → ∃ y, (a ++ d).data.toList[i]? = some y ∧ x = turnB ks i y := by
  have hsf : (fS t b1 (a ++ d) a.size).safe ≤ (fS t b1 (a ++ d) a.size).data.size := by show a.size ≤ (a ++ d).size; rw [ByteArray.size_append]; omega
  have hz := crashF_size kb ks hsf
  have hk := keptN_le kb hsf
  have hk2 : a.size ≤ keptN (fS t b1 (a ++ d) a.size) kb := by unfold keptN; exact Nat.le_add_right _ _
  have hsz : (fS t b1 (a ++ d) a.size).data.size = a.size + d.size := ByteArray.size_append
  have hcl : (crashF kb ks (fS t b1 (a ++ d) a.size)).data.data.toList = crashL (fS t b1 (a ++ d) a.size) kb ks := by
    show (crashL (fS t b1 (a ++ d) a.size) kb ks).toArray.toList = _
    rw [List.toList_toArray]
  have hat : ∀ i : Nat, (crashL (fS t b1 (a ++ d) a.size) kb ks)[i]? = (((a ++ d).data.toList.take (keptN (fS t b1 (a ++ d) a.size) kb))[i]?).map (fun b => if a.size ≤ i then turnB ks i b else b) := by
    intro i
    unfold crashL
    rw [List.getElem?_mapIdx]; rfl
  refine ⟨by rw [hz]; exact hk2, by rw [hz, ← hsz]; exact hk, ?_, fun i x hi hx => ?_⟩
  · apply ByteArray.ext
    apply Array.toList_inj.1
    rw [ByteArray.data_extract, Array.toList_extract, hcl]
    refine List.ext_getElem? (fun i => ?_)
    rw [List.extract_eq_take_drop, List.drop_zero, Nat.sub_zero]
    by_cases hi : i < a.size
    · rw [List.getElem?_take_of_lt hi, hat, if_neg_map hi, List.getElem?_take_of_lt (by omega), ByteArray.data_append, Array.toList_append, List.getElem?_append_left (by rw [Array.length_toList]; exact hi)]
    · rw [List.getElem?_eq_none (by rw [List.length_take]; omega), List.getElem?_eq_none (by rw [Array.length_toList]; show a.size ≤ i; omega)]
  · rw [hcl, hat] at hx
    have hi2 : i < keptN (fS t b1 (a ++ d) a.size) kb := by
      cases h : ((a ++ d).data.toList.take (keptN (fS t b1 (a ++ d) a.size) kb))[i]? with
      | none => rw [h] at hx; cases hx
      | some y =>
        have := (List.getElem?_eq_some_iff.1 h).1
        rw [List.length_take] at this; omega
    rw [List.getElem?_take_of_lt hi2] at hx
    cases h : (a ++ d).data.toList[i]? with
    | none => rw [h] at hx; cases hx
    | some y =>
      rw [h] at hx
      simp only [Option.map_some, Option.some.injEq] at hx
      rw [if_pos hi] at hx
      exact ⟨y, rfl, hx.symm⟩
where
  if_neg_map {a i : Nat} {o : Option UInt8} {g : UInt8 → UInt8} (h : i < a) : o.map (fun b => if a ≤ i then g b else b) = o := by
    cases o with
    | none => rfl
    | some x => simp only [Option.map_some]; rw [if_neg (by omega)]
theorem byte_get {s : ByteArray} {k : Nat} {x : UInt8} (h : s.data.toList[k]? = some x) {hk : k < s.size} : s[k]'hk = x := by
  obtain ⟨h1, h2⟩ := List.getElem?_eq_some_iff.1 h
  rw [← h2]
  simp [ByteArray.getElem_eq_getElem_data]
theorem xor_ne (y : UInt8) : (((y ^^^ 165).toNat : Int) != (y.toNat : Int)) = true := by
  rw [bne_iff_ne]
  intro h
  have h2 : (y ^^^ 165).toNat = y.toNat := Int.ofNat_inj.1 h
  have h3 : y ^^^ 165 = y := UInt8.toNat_inj.1 h2
  have h4 : y ^^^ (y ^^^ 165) = y ^^^ y := by rw [h3]
  rw [← UInt8.xor_assoc, UInt8.xor_self, UInt8.zero_xor] at h4
  cases h4
theorem bud0 (mb : Nat) : (newS 1000 mb).calls ≤ 4611686018427387904 ∧ (newS 1000 mb).written ≤ 4611686018427387904 ∧ (newS 1000 mb).mn ≤ 1000000 := ⟨by show (0 : Int) ≤ 4611686018427387904; decide, by show (0 : Int) ≤ 4611686018427387904; decide, by show 0 ≤ 1000000; decide⟩
set_option maxRecDepth 100000 in
set_option maxHeartbeats 4000000 in
theorem diskSafe_any (a d : ByteArray) (kb ks : Int) (w : World) (ha : a.size ≤ maxLen) (hd : d.size ≤ maxLen) (h1 : I64 kb) (h2 : I64 ks) :
    Calls Try.prog 3 #[.string a, .string d, .agg #[.int .i64 kb, .int .i64 ks]] w fun x w' => x = .returned (.bool true) ∧ Below w.heap.size w w' := by
  have HB0 := Lib.hid ((Below.refl w.heap.size w).alloc (Nat.le_refl _) (.cells #[.int .i64 kb, .int .i64 ks] 23))
  have BK := Lib.hid (Mem.Blk.new w 23 #[.int .i64 kb, .int .i64 ks])
  have HI : Hid (I64 kb ∧ I64 ks) := ⟨h1, h2⟩
  clear h1 h2 ha hd
  by_cases hga : 300 < a.size
  · have hga' : (300 : Int) < (a.size : Int) := by omega
    go_enter Try.func3, Try.ntmps3
    go_upto_region 2 with (fail)
    generalize (w.alloc (.cells #[.int .i64 kb, .int .i64 ks] 23)) = w1 at *
    go_wp2_with fail
    go_at_call 9
    (with_reducible refine (awake05_any _).mono ?_)
    rintro e w9 ⟨rfl, b9⟩
    have HB9 := Lib.hid (HB0.out.trans (b9.mono HB0.out.size))
    clear b9
    go_wp2_with fail
    go_ret
    exact ⟨rfl, HB9.out⟩
  · have hga' : ¬ (300 : Int) < (a.size : Int) := by omega
    by_cases hgd : 300 < d.size
    · have hgd' : (300 : Int) < (d.size : Int) := by omega
      go_enter Try.func3, Try.ntmps3
      go_upto_region 2 with (fail)
      generalize (w.alloc (.cells #[.int .i64 kb, .int .i64 ks] 23)) = w1 at *
      go_wp2_with fail
      go_at_call 9
      (with_reducible refine (awake05_any _).mono ?_)
      rintro e w9 ⟨rfl, b9⟩
      have HB9 := Lib.hid (HB0.out.trans (b9.mono HB0.out.size))
      clear b9
      go_wp2_with fail
      go_ret
      exact ⟨rfl, HB9.out⟩
    · have hgd' : ¬ (300 : Int) < (d.size : Int) := by omega
      go_enter Try.func3, Try.ntmps3
      go_upto_region 1 with (fail)
      generalize w.alloc (.cells #[.int .i64 kb, .int .i64 ks] 23) = w1 at *
      go_wp2_with fail
      go_at_call 9
      (with_reducible refine (awake05_any w1).mono ?_)
      rintro x w2 ⟨rfl, b2⟩
      have HB2 := Lib.hid (HB0.out.trans (b2.mono HB0.out.size))
      have BK2 := Lib.hid (BK.out.below b2)
      clear b2 HB0 BK
      go_wp2_with fail
      go_at_call 10
      (with_reducible refine (new_any 1000 w2 (by omega)).mono ?_)
      rintro x w3 ⟨p, mb, rfl, hdk, hlo, hbl⟩
      have H3 : Hid (Ours w2 w3 p (newS 1000 mb)) := ⟨hdk, hlo, hbl⟩
      have hb3 := bud0 mb
      clear hdk hlo hbl
      go_wp2_with fail
      go_at_call 11
      (with_reducible refine (append_any p (newS 1000 mb) _ _ w3 H3.out.dk hb3.1 hb3.2.1 hb3.2.2 (by decide) (by omega)).mono ?_)
      rintro x w4 ⟨b1, rfl, hdk, hst⟩
      have e : appendS b1 (newS 1000 mb) (⟨#[102]⟩ : ByteArray).data.toList a = _ := safe_1 mb b1 a (by omega)
      rw [e] at hdk hst ⊢
      have H4 := Lib.hid (H3.out.step hdk hst)
      clear hdk hst e H3
      go_wp2_with fail
      go_at_call 12
      (with_reducible refine (sync_any p _ _ w4 H4.out.dk (bud1 _ _ _ _ _ _ _ _ _ _ (by decide) (by omega) (by decide)).1 (by decide)).mono ?_)
      rintro x w5 ⟨rfl, hdk, hst⟩
      have e : syncS (⟨1000, (a.size : Nat), (a.size : Nat), 1, 0, false, false, [fS [102] b1 a 0], mb, 1⟩ : St) (⟨#[102]⟩ : ByteArray).data.toList = _ := safe_2 mb b1 a _ _
      rw [e] at hdk hst ⊢
      have H5 := Lib.hid (H4.out.step hdk hst)
      clear hdk hst e H4
      go_wp2_with fail
      go_at_call 11
      (with_reducible refine (append_any p _ _ _ w5 H5.out.dk (bud1 _ _ _ _ _ _ _ _ _ _ (by decide) (by omega) (by decide)).1 (bud1 _ _ _ _ _ _ _ _ _ _ (by decide) (by omega) (by decide)).2.1 (bud1 _ _ _ _ _ _ _ _ _ _ (by decide) (by omega) (by decide)).2.2 (by decide) (by omega)).mono ?_)
      rintro x w6 ⟨b', rfl, hdk, hst⟩
      have e : appendS b' (⟨1000, (a.size : Nat), (a.size : Nat), 2, 0, false, false, [fS [102] b1 a a.size], mb, 1⟩ : St) (⟨#[102]⟩ : ByteArray).data.toList d = _ := safe_3 mb b1 b' a d (by omega) (by omega)
      rw [e] at hdk hst ⊢
      have H6 := Lib.hid (H5.out.step hdk hst)
      clear hdk hst e H5 hb3
      have BK6 := Lib.hid (BK2.out.below H6.out.bel)
      obtain ⟨k0, k1, -, -⟩ := BK6.out.two
      have hal := (Below.refl w6.heap.size w6).alloc (Nat.le_refl _) (.cells #[.int .i64 kb, .int .i64 ks] 23)
      have H7 := Lib.hid (H6.out.below hal)
      have HK7 := Lib.hid (sl_keep w6 kb ks _ H6.out.dk.lt HI.out.1 HI.out.2)
      clear hal
      go_wp2_with fail
      go_at_call 13
      (with_reducible refine (crash_any p _ [(kb, ks)] _ 1 1 _ H7.out.dk HK7.out len_one).mono ?_)
      rintro x w8 ⟨rfl, hdk, hst⟩
      have e : crashS (⟨1000, (a.size : Nat) + (d.size : Nat), (a.size : Nat) + (d.size : Nat), 3, 0, false, false, [fS [102] b1 (a ++ d) a.size], mb, 2⟩ : St) [(kb, ks)] = _ := safe_4 mb b1 (a ++ d) a.size _ _ kb ks
      rw [e] at hdk hst
      have H8 := Lib.hid (H7.out.step hdk hst)
      clear hdk hst e H6 H7 HK7 BK6 k0 k1
      go_wp2_with fail
      go_at_call 14
      (with_reducible refine (read_any p _ _ w8 H8.out.dk (by decide)).mono ?_)
      rintro x w9 ⟨rfl, hw⟩
      subst hw
      have e : readS (⟨1000, (sumD [crashF kb ks (fS [102] b1 (a ++ d) a.size)] : Nat), (a.size : Nat) + (d.size : Nat), 3, 0, false, false, [crashF kb ks (fS [102] b1 (a ++ d) a.size)], mb, 2⟩ : St) (⟨#[102]⟩ : ByteArray).data.toList = _ := safe_5 mb _ rfl _ _
      rw [e]
      clear e
      have HB8 := Lib.hid (HB2.out.trans (H8.out.bel.mono HB2.out.size))
      have BK8 := Lib.hid (BK2.out.below H8.out.bel)
      have HC := Lib.hid (safe_data [102] b1 a d kb ks)
      clear H8 HB2 BK2
      dsimp only
      generalize (crashF kb ks (fS [102] b1 (a ++ d) a.size)).data = C at *
      obtain ⟨hc1, hc2, hc3, hc4⟩ := HC.out
      have HC4 := Lib.hid hc4
      have hc1' : ¬ (C.size : Int) < (a.size : Int) := by omega
      have hc2' : ¬ (a.size : Int) + (d.size : Int) < (C.size : Int) := by omega
      have hsz : (a ++ d).size = a.size + d.size := ByteArray.size_append
      have hc5 : (a.size : Int) ≤ (C.size : Int) := by omega
      clear hc4 HC
      go_upto_region 8 with (fail)
      go_wp2_with fail
      go_loopw [10] (fun i wr => ∃ (k : Nat), i = .int .i64 (k : Nat) ∧ a.size ≤ k ∧ k ≤ C.size ∧ Hid (Below w9.heap.size w9 wr)) (fun i _ => C.size - (intOf i).toNat)
      case atStart => exact ⟨a.size, rfl, Nat.le_refl _, hc1, Below.refl _ _⟩
      case round =>
        obtain ⟨k, rfl, hk1, hk2, HR⟩ := hrel
        by_cases hlt : k < C.size
        · have j0 : (0 : Int) ≤ (k : Int) := by omega
          have j1 : (k : Int) < (C.size : Int) := by omega
          have j2 : (k : Int) < (a.size : Int) + (d.size : Int) := by omega
          have k1 : wr.cell? ⟨w.heap.size, 1, none⟩ = some (.int .i64 ks) := (BK8.out.below HR.out).cell 1
          obtain ⟨x, hx⟩ : ∃ x, C.data.toList[k]? = some x := ⟨_, List.getElem?_eq_getElem (by rw [Array.length_toList]; exact hlt)⟩
          obtain ⟨y, hy, hxy⟩ := HC4.out k x hk1 hx
          have g1 : (C[k]'hlt).toNat = x.toNat := by rw [byte_get hx]
          have g2 : ((a ++ d)[k]'(by rw [hsz]; omega)).toNat = y.toNat := by rw [byte_get hy]
          clear hx hy
          by_cases hs : ((k / 64 : Nat) : Int) = ks
          · have hx2 : x = y ^^^ 165 := by rw [hxy]; unfold turnB; rw [if_pos hs]
            have hs0 : ((k : Int) / 64 == ks) = true := by rw [beq_iff_eq]; omega
            have hs1 : ((k : Int) / 64 != ks) = false := by rw [bne_eq_false_iff_eq]; omega
            have hne : ((x.toNat : Int) != (y.toNat : Int)) = true := by rw [hx2]; exact xor_ne y
            have hxx : bits .xor .u8 (y.toNat : Int) 165 = (x.toNat : Int) := by rw [hx2]; exact xor_u8 y
            clear hxy hs hx2
            go_wp2_with fail
            go_quiet (fail)
            go_wp2_with fail
            go_roundw
            case rel => exact ⟨k + 1, by go_num, by omega, by omega, below_dN HR.out _⟩
            case measure => simp [intOf]; omega
          · obtain rfl : x = y := by rw [hxy]; unfold turnB; rw [if_neg hs]
            clear hxy hs
            go_wp2_with fail
            go_quiet (fail)
            go_wp2_with fail
            go_roundw
            case rel => exact ⟨k + 1, by go_num, by omega, by omega, below_dN HR.out _⟩
            case measure => simp [intOf]; omega
        · have j1 : ¬ (k : Int) < (C.size : Int) := by omega
          have HB9 := Lib.hid (HB8.out.trans (HR.out.mono HB8.out.size))
          clear HR
          go_wp2_with fail
          go_ret
          exact ⟨rfl, HB9.out⟩
end Go.Proofs.Ytefpjdgfcgjbaaa

/- The walk of DiskNames. -/
namespace Go.Proofs.Ytefpjdgfcgjbaaa
set_option linter.unusedVariables false
set_option linter.unusedSimpArgs false
open Go.RowKit
theorem right_any (nm : ByteArray) (w : World) : Calls Try.prog 18 #[.string nm] w fun x w' => x = .returned (.bool (!badN nm.data.toList)) ∧ w' = w := by
  have hl : nm.data.toList.length = nm.size := by rw [Array.length_toList]; rfl
  by_cases h1 : nm.size < 1
  · have h1' : (nm.size : Int) < 1 := by omega
    have e : badN nm.data.toList = true := by
      unfold badN
      rw [List.isEmpty_iff.2 (List.length_eq_zero_iff.1 (by omega))]; rfl
    rw [e]
    clear hl e h1
    go_enter Try.func18, Try.ntmps18
    go_wp2_with fail
    go_ret
    exact ⟨rfl, rfl⟩
  · have h1' : ¬ (nm.size : Int) < 1 := by omega
    have he : nm.data.toList.isEmpty = false := by
      cases hx : nm.data.toList with
      | nil => rw [hx] at hl; simp at hl; omega
      | cons x t => rfl
    by_cases h2 : 24 < nm.size
    · have h2' : ¬ (nm.size : Int) ≤ 24 := by omega
      have e : badN nm.data.toList = true := by unfold badN; rw [he, decide_eq_true (by omega)]; rfl
      rw [e]
      clear hl e h1 h2 he
      go_enter Try.func18, Try.ntmps18
      go_wp2_with fail
      go_ret
      exact ⟨rfl, rfl⟩
    · have h2' : (nm.size : Int) ≤ 24 := by omega
      have e : badN nm.data.toList = false := by unfold badN; rw [he, decide_eq_false (by omega)]; rfl
      rw [e]
      clear hl e h1 h2 he
      go_enter Try.func18, Try.ntmps18
      go_wp2_with fail
      go_ret
      exact ⟨rfl, rfl⟩
/-- What is said of a disk that is on and not armed. -/
structure OnS (s : St) (u : Nat) (c : Nat) : Prop where
  off : s.off = false
  armed : s.armed = false
  room : s.room = 1000
  used : s.used = (u : Nat)
  calls : s.calls ≤ (c : Nat)
  written : s.written ≤ 1000000
  mn : s.mn ≤ c
theorem OnS.ha {s : St} {u c : Nat} (h : OnS s u c) : ¬ (s.armed = true ∧ s.left = 0) := by rw [h.armed]; simp
theorem OnS.bud {s : St} {u c : Nat} (h : OnS s u c) (hc : c ≤ 100000) : s.calls ≤ 4611686018427387904 ∧ s.written ≤ 4611686018427387904 ∧ s.mn ≤ 1000000 := by
  have h1 := h.calls
  have h2 := h.written
  have h3 := h.mn
  exact ⟨by omega, by omega, by omega⟩
theorem new_on (mb : Nat) : OnS (newS 1000 mb) 0 0 := ⟨rfl, rfl, rfl, rfl, by show (0 : Int) ≤ _; decide, by show (0 : Int) ≤ _; decide, by show 0 ≤ 0; decide⟩
/-- A new file. -/
theorem app_new {s : St} {u c : Nat} {t : Nm} {d : ByteArray} {b : Nat} (h : OnS s u c) (hn : badN t = false) (hf : findF s.fs t = none) (hl : s.fs.length < 200) (hd : d.size ≤ 400) (hu : u + d.size ≤ 1000) (hw : s.written ≤ 900000) :
    ∃ s', appendS b s t d = (0, s') ∧ OnS s' (u + d.size) (c + 1) ∧ s'.fs = insF ⟨t, d, 0, b⟩ s.fs ∧ s'.written = s.written + (d.size : Nat) := by
  refine ⟨_, appendS_new h.off h.ha hn hf hl (by omega) (by rw [h.room, h.used]; omega), ⟨h.off, h.armed, h.room, ?_, ?_, ?_, ?_⟩, rfl, rfl⟩
  · show s.used + (d.size : Nat) = _; rw [h.used]; push_cast; rfl
  · show s.calls + 1 ≤ _; have := h.calls; push_cast; omega
  · show s.written + (d.size : Nat) ≤ _; omega
  · show s.mn + 1 ≤ _; have := h.mn; omega
theorem sync_on {s : St} {u c : Nat} {t : Nm} {f : Fi} (h : OnS s u c) (hn : badN t = false) (hf : findF s.fs t = some f) : ∃ s', syncS s t = (0, s') ∧ OnS s' u (c + 1) ∧ s'.fs = updF t syncF s.fs ∧ s'.written = s.written := by
  refine ⟨_, syncS_go h.off h.ha hn hf, ⟨h.off, h.armed, h.room, h.used, ?_, h.written, ?_⟩, rfl, rfl⟩
  · show s.calls + 1 ≤ _; have := h.calls; push_cast; omega
  · show s.mn ≤ _; have := h.mn; omega
/-- A file that is renamed. -/
theorem ren_on {s : St} {u c : Nat} {x y : Nm} {f : Fi} (h : OnS s u c) (hu : UpF s.fs) (hx : badN x = false) (hy : badN y = false) (hxy : x ≠ y) (hf : findF s.fs x = some f) (hall : ∀ g ∈ s.fs, g.name = x ∨ g.name = y) :
    ∃ s', renameS s x y = (0, s') ∧ s'.off = false ∧ s'.armed = false ∧ s'.fs = [⟨y, f.data, f.safe, f.blk⟩] := by
  have hd : delF x (dropS (bs s) y).fs = [] := by
    have h1 : ∀ g ∈ (dropS (bs s) y).fs, g.name = x := by
      intro g hg
      unfold dropS at hg
      cases hy2 : findF (bs s).fs y with
      | none =>
        rw [hy2] at hg
        exact (hall g hg).resolve_right (findF_none hy2 g hg)
      | some k =>
        rw [hy2] at hg
        have hg' := mem_delF.1 (show g ∈ delF y s.fs from hg)
        exact (hall g hg'.1).resolve_right hg'.2
    unfold delF
    refine List.filter_eq_nil_iff.2 (fun g hg => ?_)
    rw [h1 g hg]; simp
  have e := renameS_go h.off h.ha hx hy hxy hf
  rw [hd] at e
  have hds := dropS_same (bs s) y
  exact ⟨_, e, by show (dropS (bs s) y).off = false; rw [hds.2.2.2.2.2.2.1]; exact h.off, by show (dropS (bs s) y).armed = false; rw [hds.2.2.2.2.2.2.2]; exact h.armed, rfl⟩
theorem crashL_none (f : Fi) (h : f.safe ≤ f.data.size) : crashL f 0 (-1) = f.data.data.toList.take f.safe := by
  have hk : keptN f 0 = f.safe := by unfold keptN; simp
  refine List.ext_getElem? (fun i => ?_)
  unfold crashL
  rw [List.getElem?_mapIdx, hk]
  cases hx : (f.data.data.toList.take f.safe)[i]? with
  | none => rfl
  | some x =>
    have := (List.getElem?_eq_some_iff.1 hx).1
    rw [List.length_take] at this
    simp only [Option.map_some]
    rw [if_neg (by omega)]
theorem crash_nil (f : Fi) (h : f.safe ≤ f.data.size) : crashFs [] [f] = [⟨f.name, ⟨(f.data.data.toList.take f.safe).toArray⟩, f.safe, f.blk⟩] := by
  rw [crashFs_one]
  have hk : keptN f 0 = f.safe := by unfold keptN; simp
  have e : keepAt [] 0 = (0, -1) := rfl
  rw [e]
  show [(⟨f.name, ⟨(crashL f 0 (-1)).toArray⟩, keptN f 0, f.blk⟩ : Fi)] = _
  rw [crashL_none f h, hk]
theorem read_one {s : St} {f : Fi} {t : Nm} (ho : s.off = false) (hf : s.fs = [f]) : readS s t = if f.name = t then (f.data, 0) else (⟨#[]⟩, 7) := by
  unfold readS
  rw [ho, hf]
  by_cases h : f.name = t
  · have : findF [f] t = some f := by rw [← h]; exact findF_one f
    rw [if_pos h, this]; rfl
  · have : findF [f] t = none := by
      unfold findF
      rw [List.find?_cons]
      have : (f.name == t) = false := by simpa using h
      rw [this]; rfl
    rw [if_neg h, this]; rfl
theorem arr_take_all (d : ByteArray) : (⟨(d.data.toList.take d.size).toArray⟩ : ByteArray) = d := by
  obtain ⟨x⟩ := d
  have : x.toList.take (ByteArray.mk x).size = x.toList := List.take_of_length_le (by rw [Array.length_toList]; exact Nat.le_refl _)
  show (⟨(x.toList.take (ByteArray.mk x).size).toArray⟩ : ByteArray) = _
  rw [this]
set_option maxRecDepth 100000 in
set_option maxHeartbeats 4000000 in
theorem diskNames_any (a d fr to_ : ByteArray) (sy : Bool) (w : World) (ha : a.size ≤ maxLen) (hd : d.size ≤ maxLen) (hfr : fr.size ≤ maxLen) (hto : to_.size ≤ maxLen) :
    Calls Try.prog 5 #[.string a, .string d, .string fr, .string to_, .bool sy] w fun x w' => x = .returned (.bool true) ∧ Below w.heap.size w w' := by
  by_cases hga : 300 < a.size
  · have hga' : (300 : Int) < (a.size : Int) := by omega
    go_enter Try.func5, Try.ntmps5
    go_wp2_with fail
    go_at_call 9
    (with_reducible refine (awake05_any _).mono ?_)
    rintro e w9 ⟨rfl, b9⟩
    have HB9 := Lib.hid b9
    clear b9
    go_wp2_with fail
    go_ret
    exact ⟨rfl, HB9.out⟩
  have hga' : ¬ (300 : Int) < (a.size : Int) := by omega
  by_cases hgd : 300 < d.size
  · have hgd' : (300 : Int) < (d.size : Int) := by omega
    go_enter Try.func5, Try.ntmps5
    go_wp2_with fail
    go_at_call 9
    (with_reducible refine (awake05_any _).mono ?_)
    rintro e w9 ⟨rfl, b9⟩
    have HB9 := Lib.hid b9
    clear b9
    go_wp2_with fail
    go_ret
    exact ⟨rfl, HB9.out⟩
  have hgd' : ¬ (300 : Int) < (d.size : Int) := by omega
  cases hbf : badN fr.data.toList with
  | true =>
    go_enter Try.func5, Try.ntmps5
    go_wp2_with fail
    go_at_call 18
    (with_reducible refine (right_any fr w).mono ?_)
    rintro x w0 ⟨rfl, hw0⟩
    rw [hw0, hbf]
    clear hw0
    simp only [Bool.not_true, Bool.not_false]
    go_wp2_with fail
    go_at_call 9
    (with_reducible refine (awake05_any _).mono ?_)
    rintro e w9 ⟨rfl, b9⟩
    have HB9 := Lib.hid b9
    clear b9
    go_wp2_with fail
    go_ret
    exact ⟨rfl, HB9.out⟩
  | false =>
    cases hbt : badN to_.data.toList with
    | true =>
      go_enter Try.func5, Try.ntmps5
      go_wp2_with fail
      go_at_call 18
      (with_reducible refine (right_any fr w).mono ?_)
      rintro x w0 ⟨rfl, hw0⟩
      rw [hw0, hbf]
      clear hw0
      simp only [Bool.not_true, Bool.not_false]
      go_wp2_with fail
      go_at_call 18
      (with_reducible refine (right_any to_ w).mono ?_)
      rintro x w0 ⟨rfl, hw0⟩
      rw [hw0, hbt]
      clear hw0
      simp only [Bool.not_true, Bool.not_false]
      go_wp2_with fail
      go_at_call 9
      (with_reducible refine (awake05_any _).mono ?_)
      rintro e w9 ⟨rfl, b9⟩
      have HB9 := Lib.hid b9
      clear b9
      go_wp2_with fail
      go_ret
      exact ⟨rfl, HB9.out⟩
    | false =>
      by_cases hsame : fr = to_
      · subst hsame
        go_enter Try.func5, Try.ntmps5
        go_wp2_with fail
        go_at_call 18
        (with_reducible refine (right_any fr w).mono ?_)
        rintro x w0 ⟨rfl, hw0⟩
        rw [hw0, hbf]
        clear hw0
        simp only [Bool.not_true, Bool.not_false]
        go_wp2_with fail
        go_at_call 18
        (with_reducible refine (right_any fr w).mono ?_)
        rintro x w0 ⟨rfl, hw0⟩
        rw [hw0, hbf]
        clear hw0
        simp only [Bool.not_true, Bool.not_false]
        go_wp2_with fail
        go_at_call 9
        (with_reducible refine (awake05_any _).mono ?_)
        rintro e w9 ⟨rfl, b9⟩
        have HB9 := Lib.hid b9
        clear b9
        go_wp2_with fail
        go_ret
        exact ⟨rfl, HB9.out⟩
      · have hns : fr.data.toList ≠ to_.data.toList := fun e => hsame (by
          obtain ⟨⟨x⟩⟩ := fr; obtain ⟨⟨y⟩⟩ := to_
          have : x = y := e
          rw [this])
        have hne : (fr.toList == to_.toList) = false := by rw [beq_eq_false_iff_ne, ByteArray.toList_eq, ByteArray.toList_eq]; exact hns
        have HNS := Lib.hid hns
        have HBF := Lib.hid hbf
        have HBT := Lib.hid hbt
        clear hsame hns
        go_enter Try.func5, Try.ntmps5
        go_wp2_with fail
        go_at_call 18
        (with_reducible refine (right_any fr w).mono ?_)
        rintro x w0 ⟨rfl, hw0⟩
        rw [hw0, hbf]
        clear hw0
        simp only [Bool.not_true, Bool.not_false]
        go_wp2_with fail
        go_at_call 18
        (with_reducible refine (right_any to_ w).mono ?_)
        rintro x w0 ⟨rfl, hw0⟩
        rw [hw0, hbt]
        clear hw0
        simp only [Bool.not_true, Bool.not_false]
        clear hbf hbt
        go_wp2_with fail
        go_at_call 9
        (with_reducible refine (awake05_any w).mono ?_)
        rintro x w2 ⟨rfl, b2⟩
        have HB2 := Lib.hid b2
        clear b2
        go_wp2_with fail
        go_at_call 10
        (with_reducible refine (new_any 1000 w2 (by omega)).mono ?_)
        rintro x w3 ⟨p, mb, rfl, hdk, hlo, hbl⟩
        have H3 : Hid (Ours w2 w3 p (newS 1000 mb)) := ⟨hdk, hlo, hbl⟩
        have HO3 := Lib.hid (new_on mb)
        have HF3 : Hid ((newS 1000 mb).fs = []) := rfl
        have HW3 : Hid ((newS 1000 mb).written = 0) := rfl
        clear hdk hlo hbl
        generalize newS 1000 mb = s3 at *
        have hbu := HO3.out.bud (by omega)
        go_wp2_with fail
        go_at_call 11
        (with_reducible refine (append_any p s3 _ _ w3 H3.out.dk hbu.1 hbu.2.1 hbu.2.2 hfr (by omega)).mono ?_)
        rintro x w4 ⟨b1, rfl, hdk, hst⟩
        obtain ⟨s4, e, ho4, hf4, hw4⟩ := app_new (t := fr.data.toList) (d := a) (b := b1) HO3.out HBF.out (by rw [HF3.out]; rfl) (by rw [HF3.out]; decide) (by omega) (by omega) (by rw [HW3.out]; omega)
        rw [e] at hdk hst ⊢
        have H4 := Lib.hid (H3.out.step hdk hst)
        have HO4 := Lib.hid ho4
        have HF4 : Hid (s4.fs = [⟨fr.data.toList, a, 0, b1⟩]) := by show _ = _; rw [hf4, HF3.out]; rfl
        have HW4 : Hid (s4.written = (a.size : Nat)) := by show _ = _; rw [hw4, HW3.out]; omega
        clear hdk hst e H3 HO3 HF3 HW3 ho4 hf4 hw4 hbu
        have hbu := HO4.out.bud (by omega)
        have hfn : findF s4.fs to_.data.toList = none := by
          rw [HF4.out]
          unfold findF
          rw [List.find?_cons]
          have : (fr.data.toList == to_.data.toList) = false := by simpa using HNS.out
          rw [this]; rfl
        go_wp2_with fail
        go_at_call 11
        (with_reducible refine (append_any p s4 _ _ w4 H4.out.dk hbu.1 hbu.2.1 hbu.2.2 hto (by omega)).mono ?_)
        rintro x w5 ⟨b2, rfl, hdk, hst⟩
        obtain ⟨s5, e, ho5, hf5, hw5⟩ := app_new (t := to_.data.toList) (d := d) (b := b2) HO4.out HBT.out hfn (by rw [HF4.out]; show 1 < 200; decide) (by omega) (by omega) (by rw [HW4.out]; omega)
        rw [e] at hdk hst ⊢
        have H5 := Lib.hid (H4.out.step hdk hst)
        have HO5 := Lib.hid ho5
        have hnn : ∀ g ∈ s4.fs, g.name ≠ to_.data.toList := findF_none hfn
        have HA5 : Hid (findF s5.fs fr.data.toList = some ⟨fr.data.toList, a, 0, b1⟩) := by
          show findF s5.fs _ = _
          rw [hf5, findF_ins H4.out.dk.ok.up hnn, if_neg (fun e => HNS.out e.symm), HF4.out]
          exact findF_one ⟨fr.data.toList, a, 0, b1⟩
        have HL5 : Hid (∀ g ∈ s5.fs, g.name = fr.data.toList ∨ g.name = to_.data.toList) := by
          intro g hg
          rw [hf5] at hg
          rcases mem_insF.1 hg with rfl | hg
          · exact .inr rfl
          · rw [HF4.out, List.mem_singleton] at hg
            subst hg; exact .inl rfl
        clear hdk hst e H4 HO4 HF4 HW4 ho5 hf5 hw5 hbu hfn hnn
        cases sy with
        | false =>
          go_wp2_with fail
          have hbr := HO5.out.bud (by omega)
          go_at_call 19
          (with_reducible refine (rename_any p s5 _ _ w5 H5.out.dk hbr.1 hbr.2.2 hfr hto).mono ?_)
          rintro x w7 ⟨rfl, hdk, hst⟩
          obtain ⟨s7, e, ho7, har7, hf7⟩ := ren_on HO5.out H5.out.dk.ok.up HBF.out HBT.out HNS.out HA5.out HL5.out
          rw [e] at hdk hst ⊢
          have H7 := Lib.hid (H5.out.step hdk hst)
          have HO7 := Lib.hid ho7
          have HF7 : Hid (s7.fs = [⟨to_.data.toList, a, 0, b1⟩]) := hf7
          clear hdk hst e H5 HO5 HA5 HL5 ho7 har7 hf7 hbr
          go_wp2_with fail
          go_at_call 14
          (with_reducible refine (read_any p s7 _ w7 H7.out.dk hfr).mono ?_)
          rintro x w8 ⟨rfl, hw8⟩
          rw [hw8, read_one HO7.out HF7.out, if_neg (fun e => HNS.out e.symm)]
          clear hw8
          dsimp only
          go_wp2_with fail
          go_at_call 14
          (with_reducible refine (read_any p s7 _ w7 H7.out.dk hto).mono ?_)
          rintro x w9 ⟨rfl, hw9⟩
          rw [hw9, read_one HO7.out HF7.out, if_pos rfl]
          clear hw9
          dsimp only
          go_wp2_with fail
          go_at_call 13
          have hl7 : s7.fs.length ≤ 1000000 := by
            have e : s7.fs.length = 1 := by rw [HF7.out]; rfl
            omega
          (with_reducible refine (crash_any p s7 [] none 0 0 w7 H7.out.dk (SlR.nil _ _ _) hl7).mono ?_)
          rintro x w10 ⟨rfl, hdk, hst⟩
          have H10 := Lib.hid (H7.out.step hdk hst)
          have HO10 : Hid ((crashS s7 []).off = false) := rfl
          clear hdk hst H7 HO7 hl7
          have hcc : (crashFs [] [(⟨to_.data.toList, a, 0, b1⟩ : Fi)]) = [⟨to_.data.toList, ⟨#[]⟩, 0, b1⟩] := crash_nil ⟨to_.data.toList, a, 0, b1⟩ (Nat.zero_le _)
          have HF10 : Hid ((crashS s7 []).fs = [⟨to_.data.toList, ⟨#[]⟩, 0, b1⟩]) := by
            show crashFs [] s7.fs = _
            rw [HF7.out]; exact hcc
          clear hcc HF7
          generalize crashS s7 [] = s10 at *
          go_wp2_with fail
          go_at_call 14
          (with_reducible refine (read_any p s10 _ w10 H10.out.dk hto).mono ?_)
          rintro x w11 ⟨rfl, hw11⟩
          rw [hw11, read_one HO10.out HF10.out, if_pos rfl]
          clear hw11
          dsimp only
          have hlen : s10.fs.length = 1 := by rw [HF10.out]; rfl
          have HNM := Lib.hid (names_any p s10 w10 H10.out.dk (by rw [hlen]; decide))
          rw [hlen] at HNM
          clear hlen
          go_wp2_with fail
          go_at_call 15
          (with_reducible refine HNM.out.mono ?_)
          rintro x w12 ⟨⟨na, nc, rfl, -⟩, b12⟩
          have HB12 := Lib.hid (HB2.out.trans ((H10.out.bel.trans (b12.mono H10.out.bel.size)).mono HB2.out.size))
          clear b12 H10 HNM
          go_wp2_with fail
          go_ret
          exact ⟨rfl, HB12.out⟩
        | true =>
          have hbu := HO5.out.bud (by omega)
          go_wp2_with fail
          go_at_call 12
          (with_reducible refine (sync_any p s5 _ w5 H5.out.dk hbu.1 hfr).mono ?_)
          rintro x w6 ⟨rfl, hdk, hst⟩
          obtain ⟨s6, e, ho6, hf6, -⟩ := sync_on HO5.out HBF.out HA5.out
          rw [e] at hdk hst ⊢
          have H6 := Lib.hid (H5.out.step hdk hst)
          have HO6 := Lib.hid ho6
          have HA6 : Hid (findF s6.fs fr.data.toList = some ⟨fr.data.toList, a, a.size, b1⟩) := by
            show findF s6.fs _ = _
            rw [hf6, findF_upd (h := syncF) (fun f => rfl), HA5.out]
            simp only [Option.map_some, beq_self_eq_true, if_true]
            rfl
          have HL6 : Hid (∀ g ∈ s6.fs, g.name = fr.data.toList ∨ g.name = to_.data.toList) := by
            intro g hg
            rw [hf6] at hg
            rcases mem_updF hg with ⟨f, hf, -, rfl⟩ | ⟨hg, -⟩
            · exact HL5.out f hf
            · exact HL5.out g hg
          clear hdk hst e H5 HO5 HA5 HL5 ho6 hf6 hbu
          go_wp2_with fail
          have hbr := HO6.out.bud (by omega)
          go_at_call 19
          (with_reducible refine (rename_any p s6 _ _ w6 H6.out.dk hbr.1 hbr.2.2 hfr hto).mono ?_)
          rintro x w7 ⟨rfl, hdk, hst⟩
          obtain ⟨s7, e, ho7, har7, hf7⟩ := ren_on HO6.out H6.out.dk.ok.up HBF.out HBT.out HNS.out HA6.out HL6.out
          rw [e] at hdk hst ⊢
          have H7 := Lib.hid (H6.out.step hdk hst)
          have HO7 := Lib.hid ho7
          have HF7 : Hid (s7.fs = [⟨to_.data.toList, a, a.size, b1⟩]) := hf7
          clear hdk hst e H6 HO6 HA6 HL6 ho7 har7 hf7 hbr
          go_wp2_with fail
          go_at_call 14
          (with_reducible refine (read_any p s7 _ w7 H7.out.dk hfr).mono ?_)
          rintro x w8 ⟨rfl, hw8⟩
          rw [hw8, read_one HO7.out HF7.out, if_neg (fun e => HNS.out e.symm)]
          clear hw8
          dsimp only
          go_wp2_with fail
          go_at_call 14
          (with_reducible refine (read_any p s7 _ w7 H7.out.dk hto).mono ?_)
          rintro x w9 ⟨rfl, hw9⟩
          rw [hw9, read_one HO7.out HF7.out, if_pos rfl]
          clear hw9
          dsimp only
          go_wp2_with fail
          go_at_call 13
          have hl7 : s7.fs.length ≤ 1000000 := by
            have e : s7.fs.length = 1 := by rw [HF7.out]; rfl
            omega
          (with_reducible refine (crash_any p s7 [] none 0 0 w7 H7.out.dk (SlR.nil _ _ _) hl7).mono ?_)
          rintro x w10 ⟨rfl, hdk, hst⟩
          have H10 := Lib.hid (H7.out.step hdk hst)
          have HO10 : Hid ((crashS s7 []).off = false) := rfl
          clear hdk hst H7 HO7 hl7
          have hcc : (crashFs [] [(⟨to_.data.toList, a, a.size, b1⟩ : Fi)]) = [⟨to_.data.toList, a, a.size, b1⟩] := by
            rw [crash_nil ⟨to_.data.toList, a, a.size, b1⟩ (Nat.le_refl _)]
            show [(⟨_, ⟨(a.data.toList.take a.size).toArray⟩, _, _⟩ : Fi)] = _
            rw [arr_take_all]
          have HF10 : Hid ((crashS s7 []).fs = [⟨to_.data.toList, a, a.size, b1⟩]) := by
            show crashFs [] s7.fs = _
            rw [HF7.out]; exact hcc
          clear hcc HF7
          generalize crashS s7 [] = s10 at *
          go_wp2_with fail
          go_at_call 14
          (with_reducible refine (read_any p s10 _ w10 H10.out.dk hto).mono ?_)
          rintro x w11 ⟨rfl, hw11⟩
          rw [hw11, read_one HO10.out HF10.out, if_pos rfl]
          clear hw11
          dsimp only
          have hlen : s10.fs.length = 1 := by rw [HF10.out]; rfl
          have HNM := Lib.hid (names_any p s10 w10 H10.out.dk (by rw [hlen]; decide))
          rw [hlen] at HNM
          clear hlen
          go_wp2_with fail
          go_at_call 15
          (with_reducible refine HNM.out.mono ?_)
          rintro x w12 ⟨⟨na, nc, rfl, -⟩, b12⟩
          have HB12 := Lib.hid (HB2.out.trans ((H10.out.bel.trans (b12.mono H10.out.bel.size)).mono HB2.out.size))
          clear b12 H10 HNM
          go_wp2_with fail
          go_ret
          exact ⟨rfl, HB12.out⟩
end Go.Proofs.Ytefpjdgfcgjbaaa

/- The document's disk: what an operation answers (plain), and steps on a model. -/
namespace Go.Proofs.Ytefpjdgfcgjbaaa
set_option linter.unusedVariables false
set_option linter.unusedSimpArgs false
open Go.RowKit
/-- What an operation answers, by its kind. -/
def actS (b : Nat) (s : St) (k : Int) (t u : Nm) (d : ByteArray) : Int × St := if k = 0 then appendS b s t d else if k = 1 then syncS s t else if k = 2 then renameS s t u else deleteS s t
section
variable {b : Nat} {s : St} {k : Int} {t u : Nm} {d : ByteArray}
theorem actS_off (ho : s.off = true) : actS b s k t u d = (6, s) := by
  unfold actS
  split
  · exact appendS_off ho
  split
  · unfold syncS; rw [thereS_off ho]
  split
  · exact renameS_off ho
  · unfold deleteS; rw [thereS_off ho]
theorem thereS_end {more : List Nm} (ho : s.off = false) (ha : s.armed = true) (hl : s.left = 0) : thereS s t more = (none, 6, { s with calls := s.calls + 1, off := true }) := by
  unfold thereS
  rw [beginS_end ho ha hl]; rfl
theorem actS_end (ho : s.off = false) (ha : s.armed = true) (hl : s.left = 0) : actS b s k t u d = (6, { s with calls := s.calls + 1, off := true }) := by
  unfold actS
  split
  · exact appendS_end ho ha hl
  split
  · unfold syncS; rw [thereS_end ho ha hl]
  split
  · unfold renameS; rw [thereS_end ho ha hl]
  · unfold deleteS; rw [thereS_end ho ha hl]
theorem beginS_bad {ns : List Nm} (ho : s.off = false) (ha : ¬ (s.armed = true ∧ s.left = 0)) (hn : ns.any badN = true) : beginS s ns = (1, bs s) := by
  unfold beginS
  rw [if_neg (by rw [ho]; simp), if_neg ha, if_pos hn]
  rfl
theorem thereS_bad {more : List Nm} (ho : s.off = false) (ha : ¬ (s.armed = true ∧ s.left = 0)) (hn : (t :: more).any badN = true) : thereS s t more = (none, 1, bs s) := by
  unfold thereS
  rw [beginS_bad ho ha hn]; rfl
theorem actS_bad (ho : s.off = false) (ha : ¬ (s.armed = true ∧ s.left = 0)) (hn : badN t = true) : actS b s k t u d = (1, bs s) := by
  unfold actS
  split
  · unfold appendS
    rw [beginS_bad ho ha (by simp [hn])]; rfl
  split
  · unfold syncS; rw [thereS_bad ho ha (by simp [hn])]
  split
  · unfold renameS; rw [thereS_bad ho ha (by simp [hn])]
  · unfold deleteS; rw [thereS_bad ho ha (by simp [hn])]
theorem actS_bad2 (ho : s.off = false) (ha : ¬ (s.armed = true ∧ s.left = 0)) (hn : badN u = true) : actS b s 2 t u d = (1, bs s) := by
  unfold actS
  rw [if_neg (by decide), if_neg (by decide), if_pos rfl]
  unfold renameS; rw [thereS_bad ho ha (by simp [hn])]
theorem thereS_none' {more : List Nm} (ho : s.off = false) (ha : ¬ (s.armed = true ∧ s.left = 0)) (hn : ∀ x ∈ t :: more, badN x = false) (hf : findF s.fs t = none) : thereS s t more = (none, 7, bs s) := by
  unfold thereS
  rw [beginS_go ho ha hn]
  have hf' : findF (bs s).fs t = none := hf
  simp only [ne_eq, not_true_eq_false, if_false, hf']
theorem actS_none (ho : s.off = false) (ha : ¬ (s.armed = true ∧ s.left = 0)) (hn : badN t = false) (hk : k ≠ 0) (hu : k = 2 → badN u = false) (hf : findF s.fs t = none) : actS b s k t u d = (7, bs s) := by
  unfold actS
  rw [if_neg hk]
  split
  · unfold syncS; rw [thereS_none' ho ha (by simpa using hn) hf]
  split
  · rename_i h2
    unfold renameS; rw [thereS_none' ho ha (by simp [hn, hu h2]) hf]
  · unfold deleteS; rw [thereS_none' ho ha (by simpa using hn) hf]
theorem actS_new (ho : s.off = false) (ha : ¬ (s.armed = true ∧ s.left = 0)) (hn : badN t = false) (hf : findF s.fs t = none) :
    actS b s 0 t u d = if 200 ≤ s.fs.length then (4, bs s) else if 1048576 < d.size then (4, bs s) else if s.room - s.used < (d.size : Nat) then (5, bs s) else (0, { bs s with used := s.used + (d.size : Nat), written := s.written + (d.size : Nat), fs := insF ⟨t, d, 0, b⟩ s.fs, mn := s.mn + 1 }) := by
  unfold actS
  rw [if_pos rfl]
  unfold appendS
  rw [beginS_go ho ha (by simpa using hn)]
  have hf' : findF (bs s).fs t = none := hf
  simp only [ne_eq, not_true_eq_false, if_false, hf']
  rfl
theorem actS_more {f : Fi} (ho : s.off = false) (ha : ¬ (s.armed = true ∧ s.left = 0)) (hn : badN t = false) (hf : findF s.fs t = some f) :
    actS b s 0 t u d = if 1048576 < f.data.size + d.size then (4, bs s) else if s.room - s.used < (d.size : Nat) then (5, bs s) else (0, { bs s with used := s.used + (d.size : Nat), written := s.written + (d.size : Nat), fs := updF t (fun g => ⟨g.name, g.data ++ d, g.safe, g.blk⟩) s.fs, mn := s.mn + 1 }) := by
  unfold actS
  rw [if_pos rfl]
  unfold appendS
  rw [beginS_go ho ha (by simpa using hn)]
  have hf' : findF (bs s).fs t = some f := hf
  simp only [ne_eq, not_true_eq_false, if_false, hf']
  rfl
theorem actS_sync {f : Fi} (ho : s.off = false) (ha : ¬ (s.armed = true ∧ s.left = 0)) (hn : badN t = false) (hf : findF s.fs t = some f) : actS b s 1 t u d = (0, { bs s with fs := updF t syncF s.fs }) := by
  unfold actS
  rw [if_neg (by decide), if_pos rfl, syncS_go ho ha hn hf]
theorem actS_same {f : Fi} (ho : s.off = false) (ha : ¬ (s.armed = true ∧ s.left = 0)) (hn : badN t = false) (hf : findF s.fs t = some f) : actS b s 2 t t d = (0, bs s) := by
  unfold actS
  rw [if_neg (by decide), if_neg (by decide), if_pos rfl]
  unfold renameS
  rw [thereS_go ho ha (by simp [hn]) hf]
  dsimp only
  rw [if_pos rfl]
theorem actS_name {f : Fi} (ho : s.off = false) (ha : ¬ (s.armed = true ∧ s.left = 0)) (hn : badN t = false) (hu : badN u = false) (htu : t ≠ u) (hf : findF s.fs t = some f) : actS b s 2 t u d = (0, { dropS (bs s) u with fs := insF ⟨u, f.data, f.safe, f.blk⟩ (delF t (dropS (bs s) u).fs), mn := s.mn + 1 }) := by
  unfold actS
  rw [if_neg (by decide), if_neg (by decide), if_pos rfl, renameS_go ho ha hn hu htu hf]
theorem actS_gone {f : Fi} (ho : s.off = false) (ha : ¬ (s.armed = true ∧ s.left = 0)) (hn : badN t = false) (h0 : k ≠ 0) (h1 : k ≠ 1) (h2 : k ≠ 2) (hf : findF s.fs t = some f) : actS b s k t u d = (0, { bs s with used := s.used - (f.data.size : Nat), fs := delF t s.fs }) := by
  unfold actS
  rw [if_neg h0, if_neg h1, if_neg h2, deleteS_go ho ha hn hf]
end
theorem dropS_fs {s : St} (u : Nm) : (dropS s u).fs = match findF s.fs u with | none => s.fs | some _ => delF u s.fs := by
  unfold dropS
  cases findF s.fs u <;> rfl
theorem delF_comm (t u : Nm) (fs : List Fi) : delF t (delF u fs) = delF u (delF t fs) := by
  unfold delF
  rw [List.filter_filter, List.filter_filter]
  congr 1
  funext f
  exact Bool.and_comm _ _
theorem updF_ins {t : Nm} {h : Fi → Fi} {f : Fi} {fs : List Fi} (hf : f.name = t) (hh : (h f).name = t) (hn : findF fs t = none) : updF t h (insF f fs) = insF (h f) fs := by
  induction fs with
  | nil => unfold insF updF; simp [hf]
  | cons g l ih =>
    have hg : (g.name == t) = false := by simpa using findF_none hn g (List.mem_cons_self ..)
    have hn' : findF l t = none := by
      unfold findF at hn ⊢
      rw [List.find?_cons, hg] at hn; exact hn
    have hl : updF t h l = l := by
      unfold updF
      have : ∀ x ∈ l, (if (x.name == t) = true then h x else x) = id x := fun x hx => by
        have hx : (x.name == t) = false := by simpa using findF_none hn' x hx
        rw [hx]; rfl
      rw [List.map_congr_left this, List.map_id]
    unfold insF
    rw [hf, hh]
    split
    · unfold updF at hl ⊢
      rw [List.map_cons, List.map_cons, hl, hg]
      simp [hf]
    · rw [← ih hn']
      unfold updF
      rw [List.map_cons, hg]; rfl
theorem flR_set {fs : List Fi} {k : Nat} {f f' : Fi} (hf : fs[k]? = some f) (j : Nat) (hj : j < 3) (u : Value) (e : flD f' = (flD f).set j u) : flR (fs.set k f') = (flR fs).set (k * 3 + j) u := by
  have hc : ∀ (x : Fi) (l : List Fi), flR (x :: l) = flD x ++ flR l := fun x l => by unfold flR; rw [List.map_cons, List.flatten_cons]
  induction fs generalizing k with
  | nil => cases hf
  | cons x l ih =>
    cases k with
    | zero =>
      injection hf with hf
      subst hf
      rw [List.set_cons_zero, hc, hc, e, List.set_append_left _ _ (by show 0 * 3 + j < 3; omega), Nat.zero_mul, Nat.zero_add]
    | succ k =>
      rw [List.set_cons_succ, hc, hc, ih hf, List.set_append_right _ _ (by show 3 ≤ (k + 1) * 3 + j; omega)]
      congr 2
      show k * 3 + j = (k + 1) * 3 + j - 3
      omega
/-- A model that is under way. -/
structure MdGo (base q : Nat) (fa : Option Addr) (w W : World) (m : Md) (fa' : Option Addr) (fc : Nat) : Prop where
  at_ : MdAt base W q m fa' fc
  step : MdStep q fa fa' w W
section
variable {base q : Nat} {fa fa' : Option Addr} {fc : Nat} {w W W' : World} {m m' : Md}
theorem MdAt.like (h : MdAt base w q m fa fc) (e : m'.fs = m.fs) (e1 : m'.room = m.room ∧ m'.off = m.off ∧ m'.armed = m.armed ∧ m'.left = m.left ∧ m'.written = m.written ∧ m'.calls = m.calls) : MdAt base w q m' fa fc := by
  refine ⟨?_, ?_, h.lo⟩
  · have := h.ptr
    unfold mdC at this ⊢
    rw [e, e1.1, e1.2.1, e1.2.2.1, e1.2.2.2.1, e1.2.2.2.2.1, e1.2.2.2.2.2]; exact this
  · rw [e]; exact h.row
theorem MdDone.like (h : MdDone base q fa w W m) (e : m'.fs = m.fs) (e1 : m'.room = m.room ∧ m'.off = m.off ∧ m'.armed = m.armed ∧ m'.left = m.left ∧ m'.written = m.written ∧ m'.calls = m.calls) : MdDone base q fa w W m' := by
  obtain ⟨a, c, h1, h2⟩ := h
  exact ⟨a, c, h1.like e e1, h2⟩
theorem MdGo.start (h : MdAt base w q m fa fc) : MdGo base q fa w w m fa fc := ⟨h, MdStep.refl _ _ _⟩
theorem MdGo.below (h : MdGo base q fa w W m fa' fc) (b : Below W.heap.size W W') : MdGo base q fa w W' m fa' fc := ⟨h.at_.below b, h.step.trans (MdStep.below b)⟩
theorem MdGo.done (h : MdGo base q fa w W m fa' fc) : MdDone base q fa w W m := ⟨fa', fc, h.at_, h.step⟩
theorem MdGo.on (h : MdGo base q fa w W m fa' fc) (k : MdDone base q fa' W W' m') : ∃ fa2 fc2, MdGo base q fa w W' m' fa2 fc2 := by
  obtain ⟨a, c, h1, h2⟩ := k
  exact ⟨a, c, h1, h.step.trans h2⟩
theorem MdGo.like (h : MdGo base q fa w W m fa' fc) (e : m'.fs = m.fs) (e1 : m'.room = m.room ∧ m'.off = m.off ∧ m'.armed = m.armed ∧ m'.left = m.left ∧ m'.written = m.written ∧ m'.calls = m.calls) : MdGo base q fa w W m' fa' fc := ⟨h.at_.like e e1, h.step⟩
/-- One of the model's own cells turns. -/
theorem MdGo.turn (h : MdGo base q fa w W m fa' fc) (j : Nat) (u : Value) (m' : Md) (e : m'.fs = m.fs) (e2 : ∀ v, mdC m' v = (mdC m v).setIfInBounds j u) : MdGo base q fa w (W.setCell ⟨q, j, none⟩ u) m' fa' fc := by
  refine ⟨⟨?_, ?_, h.at_.lo⟩, h.step.trans ⟨Fr.setCell (X := mks q fa') (p := ⟨q, j, none⟩) W (List.mem_cons_self ..) _, fun b hb => .inl hb⟩⟩
  · rw [e, e2]; exact h.at_.ptr.set_ j u
  · rw [e]
    refine ownsRow_setCell_other h.at_.row ?_ u
    intro hg
    exact h.at_.gq hg rfl
/-- A file's cell turns. -/
theorem MdGo.cell {g k : Nat} {f f' : Fi} (h : MdGo base q fa w W m (some ⟨g, 0, none⟩) fc) (hf : m.fs[k]? = some f) (j : Nat) (hj : j < 3) (u : Value) (e : flD f' = (flD f).set j u) : MdGo base q fa w (W.setCell ⟨g, k * 3 + j, none⟩ u) { m with fs := m.fs.set k f' } (some ⟨g, 0, none⟩) fc := by
  have hq : q ≠ g := fun e => h.at_.gq (g := g) rfl e.symm
  refine ⟨⟨?_, ?_, h.at_.lo⟩, h.step.trans ⟨Fr.setCell (X := mks q (some ⟨g, 0, none⟩)) (p := ⟨g, k * 3 + j, none⟩) W (by simp [mks]) _, fun b hb => .inl hb⟩⟩
  · have := (Fr.setCell (X := [g]) (p := ⟨g, k * 3 + j, none⟩) W (by simp) u).blk h.at_.ptr (by simpa using hq)
    rw [List.length_set]; exact this
  · have := (h.at_.row.stored (k * 3 + j) u).1
    rw [List.length_set]
    have e2 : flR (m.fs.set k f') = (flR m.fs).set (k * 3 + j) u := flR_set hf j hj u e
    rw [e2]; exact this
theorem MdStep.out (h : MdStep q fa fa' w W) {z : Nat} (hz : z < w.heap.size) (hn : z ∉ mks q fa) : z ∉ mks q fa' := by
  intro hm
  rcases h.own z hm with h1 | h1
  · exact hn h1
  · omega
end
end Go.Proofs.Ytefpjdgfcgjbaaa

/- The document's disk: the contract of does. -/
namespace Go.Proofs.Ytefpjdgfcgjbaaa
set_option linter.unusedVariables false
set_option linter.unusedSimpArgs false
open Go.RowKit
/-- Where an operation stands: the model, and the act's block. -/
structure DoSt (base q zb : Nat) (c : Ac) (fa : Option Addr) (w W : World) (m : Md) (fa' : Option Addr) (fc : Nat) : Prop where
  go : MdGo base q fa w W m fa' fc
  box : Mem.Blk W zb 54 (acC c).toArray
  out : zb ∉ mks q fa'
section
variable {base q zb : Nat} {c : Ac} {fa fa' : Option Addr} {fc : Nat} {w W W' : World} {m m' : Md}
theorem DoSt.below (h : DoSt base q zb c fa w W m fa' fc) (b : Below W.heap.size W W') : DoSt base q zb c fa w W' m fa' fc := ⟨h.go.below b, h.box.below b, h.out⟩
theorem DoSt.on (h : DoSt base q zb c fa w W m fa' fc) (k : MdDone base q fa' W W' m') : ∃ fa2 fc2, DoSt base q zb c fa w W' m' fa2 fc2 := by
  obtain ⟨a, cc, h1, h2⟩ := k
  exact ⟨a, cc, ⟨h1, h.go.step.trans h2⟩, h2.fr.blk h.box h.out, h2.out h.box.lt h.out⟩
theorem DoSt.turn (h : DoSt base q zb c fa w W m fa' fc) (j : Nat) (u : Value) (m' : Md) (e : m'.fs = m.fs) (e2 : ∀ v, mdC m' v = (mdC m v).setIfInBounds j u) : DoSt base q zb c fa w (W.setCell ⟨q, j, none⟩ u) m' fa' fc :=
  ⟨h.go.turn j u m' e e2, (Fr.setCell (X := mks q fa') (p := ⟨q, j, none⟩) W (List.mem_cons_self ..) u).blk h.box h.out, h.out⟩
theorem DoSt.cell {g k : Nat} {f f' : Fi} (h : DoSt base q zb c fa w W m (some ⟨g, 0, none⟩) fc) (hf : m.fs[k]? = some f) (j : Nat) (hj : j < 3) (u : Value) (e : flD f' = (flD f).set j u) : DoSt base q zb c fa w (W.setCell ⟨g, k * 3 + j, none⟩ u) { m with fs := m.fs.set k f' } (some ⟨g, 0, none⟩) fc :=
  ⟨h.go.cell hf j hj u e, (Fr.setCell (X := mks q (some ⟨g, 0, none⟩)) (p := ⟨g, k * 3 + j, none⟩) W (by simp [mks]) u).blk h.box h.out, h.out⟩
theorem DoSt.like (h : DoSt base q zb c fa w W m fa' fc) (e : m'.fs = m.fs) (e1 : m'.room = m.room ∧ m'.off = m.off ∧ m'.armed = m.armed ∧ m'.left = m.left ∧ m'.written = m.written ∧ m'.calls = m.calls) : DoSt base q zb c fa w W m' fa' fc := ⟨h.go.like e e1, h.box, h.out⟩
end
theorem mdF {w : World} {q : Nat} {t : TypeId} {cs : Array Value} (h : Mem.Blk w q t cs) : w.frozen? ⟨q, 0, none⟩ = false ∧ w.frozen? ⟨q, 1, none⟩ = false ∧ w.frozen? ⟨q, 2, none⟩ = false ∧ w.frozen? ⟨q, 3, none⟩ = false ∧ w.frozen? ⟨q, 4, none⟩ = false ∧ w.frozen? ⟨q, 5, none⟩ = false ∧ w.frozen? ⟨q, 6, none⟩ = false :=
  ⟨h.frozen 0, h.frozen 1, h.frozen 2, h.frozen 3, h.frozen 4, h.frozen 5, h.frozen 6⟩
theorem do_start {base q : Nat} {m : Md} {fa : Option Addr} {fc : Nat} {w : World} (h : MdAt base w q m fa fc) (c : Ac) : DoSt base q w.heap.size c fa w (w.alloc (.cells (acC c).toArray 54)) m fa fc := by
  have hal := (Below.refl w.heap.size w).alloc (Nat.le_refl _) (.cells (acC c).toArray 54)
  refine ⟨(MdGo.start h).below hal, Mem.Blk.new w 54 (acC c).toArray, fun hm => ?_⟩
  have := (h.own _ hm).2
  omega
set_option maxRecDepth 100000 in
set_option maxHeartbeats 4000000 in
theorem does_off (base q : Nat) (m : Md) (fa : Option Addr) (fc : Nat) (c : Ac) (w : World) (h : MdAt base w q m fa fc) (ho : m.off = true) :
    Calls Try.prog 24 #[.pointer (some ⟨q, 0, none⟩), .agg (acC c).toArray] w fun x w' => x = .returned (.int .i64 6) ∧ MdDone base q fa w w' m := by
  have HS := Lib.hid (do_start h c)
  clear h
  show Calls Try.prog 24 #[.pointer (some ⟨q, 0, none⟩), .agg #[.int .i64 c.kind, .string c.name, .string c.to_, .string c.data, .int .i64 c.n, .int .u32 c.bits, .slice c.ka c.kl c.kc]] w _
  go_enter Try.func24, Try.ntmps24
  go_upto_region 1 with (fail)
  have HS1 : Hid (DoSt base q w.heap.size c fa w (w.alloc (.cells #[.int .i64 c.kind, .string c.name, .string c.to_, .string c.data, .int .i64 c.n, .int .u32 c.bits, .slice c.ka c.kl c.kc] 54)) m fa fc) := HS.out
  clear HS
  generalize w.alloc (.cells #[.int .i64 c.kind, .string c.name, .string c.to_, .string c.data, .int .i64 c.n, .int .u32 c.bits, .slice c.ka c.kl c.kc] 54) = w1 at *
  obtain ⟨c0, c1, c2, c3, c4, c5, c6⟩ := md7 HS1.out.go.at_.ptr
  rw [ho] at c2
  go_wp2_with fail
  go_ret
  exact ⟨rfl, HS1.out.go.done⟩
set_option maxRecDepth 100000 in
set_option maxHeartbeats 4000000 in
theorem does_end (base q : Nat) (m : Md) (fa : Option Addr) (fc : Nat) (c : Ac) (w : World) (h : MdAt base w q m fa fc) (ho : m.off = false) (ha : m.armed = true) (hl : m.left = 0) (hc : 0 ≤ m.calls ∧ m.calls ≤ 4611686018427387904) :
    Calls Try.prog 24 #[.pointer (some ⟨q, 0, none⟩), .agg (acC c).toArray] w fun x w' => x = .returned (.int .i64 6) ∧ MdDone base q fa w w' { m with calls := m.calls + 1, off := true } := by
  have HS := Lib.hid (do_start h c)
  have hcw : IntKind.i64.wrap (m.calls + 1) = m.calls + 1 := IntWalk.i64_in _ (by omega)
  clear h
  show Calls Try.prog 24 #[.pointer (some ⟨q, 0, none⟩), .agg #[.int .i64 c.kind, .string c.name, .string c.to_, .string c.data, .int .i64 c.n, .int .u32 c.bits, .slice c.ka c.kl c.kc]] w _
  go_enter Try.func24, Try.ntmps24
  go_upto_region 1 with (fail)
  have HS1 : Hid (DoSt base q w.heap.size c fa w (w.alloc (.cells #[.int .i64 c.kind, .string c.name, .string c.to_, .string c.data, .int .i64 c.n, .int .u32 c.bits, .slice c.ka c.kl c.kc] 54)) m fa fc) := HS.out
  clear HS
  generalize w.alloc (.cells #[.int .i64 c.kind, .string c.name, .string c.to_, .string c.data, .int .i64 c.n, .int .u32 c.bits, .slice c.ka c.kl c.kc] 54) = w1 at *
  obtain ⟨c0, c1, c2, c3, c4, c5, c6⟩ := md7 HS1.out.go.at_.ptr
  obtain ⟨f0, f1, f2, f3, f4, f5, f6⟩ := mdF HS1.out.go.at_.ptr
  have HF := Lib.hid ((HS1.out.turn 6 (.int .i64 (m.calls + 1)) { m with calls := m.calls + 1 } rfl (fun v => rfl)).turn 2 (.bool true) { m with calls := m.calls + 1, off := true } rfl (fun v => rfl))
  rw [ho] at c2
  rw [ha] at c3
  rw [hl] at c4
  go_wp2_with fail
  go_ret
  exact ⟨rfl, HF.out.go.done⟩
theorem bs_ok {m : Md} (ok : StOk m) : (bs m).used = (sumD (bs m).fs : Nat) ∧ 0 ≤ (bs m).room ∧ (bs m).room ≤ 16777216 ∧ (bs m).used ≤ (bs m).room ∧ UpF (bs m).fs ∧ 0 ≤ (bs m).written ∧ (∀ f ∈ (bs m).fs, f.data.size ≤ 1048576 ∧ f.safe ≤ f.data.size) := ⟨ok.use, ok.rm.1, ok.rm.2.1, ok.rm.2.2, ok.up, ok.wr.1, ok.siz⟩
set_option maxRecDepth 100000 in
set_option maxHeartbeats 4000000 in
theorem does_bad (base q : Nat) (m : Md) (fa : Option Addr) (fc : Nat) (c : Ac) (b : Nat) (R : Int × St) (w : World) (h : MdAt base w q m fa fc) (ok : StOk m) (hn : m.fs.length ≤ 1000) (hd : c.data.size ≤ 1000000000) (hk : I64 c.kind) (ho : m.off = false) (ha : ¬ (m.armed = true ∧ m.left = 0)) (hc : m.calls ≤ 4611686018427387904 ∧ m.written ≤ 4611686018427387904) (HR : Hid (R = actS b m c.kind c.name.data.toList c.to_.data.toList c.data)) (hb : badN c.name.data.toList = true) : Calls Try.prog 24 #[.pointer (some ⟨q, 0, none⟩), .agg (acC c).toArray] w fun x w' => x = .returned (.int .i64 R.1) ∧ MdDone base q fa w w' R.2 := by
  have HE : Hid (R = (1, bs m)) := by show R = _; rw [HR.out]; exact actS_bad ho ha hb
  have HS := Lib.hid (do_start h c)
  have HN := Lib.hid hn
  have HOK := Lib.hid ok
  have HCC := Lib.hid hc
  have hcw : IntKind.i64.wrap (m.calls + 1) = m.calls + 1 := IntWalk.i64_in _ (by have := ok.wr; omega)
  have hlw : IntKind.i64.wrap (m.left - 1) = m.left - 1 := IntWalk.i64_in _ (by have := ok.lf; omega)
  clear h ok hn hc HR
  show Calls Try.prog 24 #[.pointer (some ⟨q, 0, none⟩), .agg #[.int .i64 c.kind, .string c.name, .string c.to_, .string c.data, .int .i64 c.n, .int .u32 c.bits, .slice c.ka c.kl c.kc]] w _
  go_enter Try.func24, Try.ntmps24
  go_upto_region 1 with (fail)
  have HS1 : Hid (DoSt base q w.heap.size c fa w (w.alloc (.cells #[.int .i64 c.kind, .string c.name, .string c.to_, .string c.data, .int .i64 c.n, .int .u32 c.bits, .slice c.ka c.kl c.kc] 54)) m fa fc) := HS.out
  clear HS
  generalize w.alloc (.cells #[.int .i64 c.kind, .string c.name, .string c.to_, .string c.data, .int .i64 c.n, .int .u32 c.bits, .slice c.ka c.kl c.kc] 54) = w1 at *
  obtain ⟨c0, c1, c2, c3, c4, c5, c6⟩ := md7 HS1.out.go.at_.ptr
  obtain ⟨f0, f1, f2, f3, f4, f5, f6⟩ := mdF HS1.out.go.at_.ptr
  have HS2 := Lib.hid (HS1.out.turn 6 (.int .i64 (m.calls + 1)) { m with calls := m.calls + 1 } rfl (fun v => rfl))
  rw [ho] at c2
  clear ho HS1
  go_upto_region 4 with (fail)
  generalize w1.setCell ⟨q, 6, none⟩ (.int .i64 (m.calls + 1)) = w2 at *
  clear c0 c1 c2 c3 c4 c5 c6 f0 f1 f2 f3 f4 f5 f6
  have c3 : w2.cell? ⟨q, 3, none⟩ = some (.bool m.armed) := (md7 HS2.out.go.at_.ptr).2.2.2.1
  have c4 : w2.cell? ⟨q, 4, none⟩ = some (.int .i64 m.left) := (md7 HS2.out.go.at_.ptr).2.2.2.2.1
  have f4 : w2.frozen? ⟨q, 4, none⟩ = false := HS2.out.go.at_.ptr.frozen 4
  cases harm : m.armed with
  | true =>
    have hl : ¬ m.left = 0 := fun e => ha ⟨harm, e⟩
    have HS3 : Hid (DoSt base q w.heap.size c fa w (w2.setCell ⟨q, 4, none⟩ (.int .i64 (m.left - 1))) (bs m) fa fc) := HS2.out.turn 4 _ (bs m) rfl (fun v => by unfold bs mdC; rw [harm]; rfl)
    rw [harm] at c3
    clear ha
    go_upto_region 9 with (fail)
    generalize w2.setCell ⟨q, 4, none⟩ (.int .i64 (m.left - 1)) = w3 at *
    clear hcw hlw c3 c4 f4 HS2 hl
    obtain ⟨q0, q1, q2, q3, q4, q5, q6⟩ := blk7 HS3.out.box
    go_wp2_with fail
    go_at_call 18
    (with_reducible refine (right_any _ _).mono ?_)
    rintro x w4 ⟨rfl, hw⟩
    subst hw
    rw [hb]
    go_wp2_with fail
    go_ret
    rw [HE.out]
    exact ⟨rfl, HS3.out.go.done⟩
  | false =>
    obtain ⟨w3, hw3⟩ : ∃ W, W = w2 := ⟨_, rfl⟩
    have HS3 : Hid (DoSt base q w.heap.size c fa w w3 (bs m) fa fc) := by
      rw [hw3]
      refine HS2.out.like rfl ⟨rfl, rfl, rfl, ?_, rfl, rfl⟩
      unfold bs; rw [harm]; rfl
    rw [harm] at c3
    clear ha
    go_upto_region 9 with (fail)
    rw [← hw3]
    clear hcw hlw c3 c4 f4 HS2 hw3
    obtain ⟨q0, q1, q2, q3, q4, q5, q6⟩ := blk7 HS3.out.box
    go_wp2_with fail
    go_at_call 18
    (with_reducible refine (right_any _ _).mono ?_)
    rintro x w4 ⟨rfl, hw⟩
    subst hw
    rw [hb]
    go_wp2_with fail
    go_ret
    rw [HE.out]
    exact ⟨rfl, HS3.out.go.done⟩
end Go.Proofs.Ytefpjdgfcgjbaaa
