import Derived.Test.YtokinadmeooaoaaDp
import Derived.Test.YtokinadmeooaoaaLtexts
import Derived.Deep.RegionHeld3
namespace Go.Proofs.Ytokinadmeooaoaa
open Go.RowKit
theorem ptext_take7 (y m d : Int) : (strOfNums (ptext y m d)).extract 0 7 = strOfNums ((ptext y m d).take 7) := rfl
theorem u8_inj (a b : Int) (a0 : 0 ≤ a) (a1 : a ≤ 9) (b0 : 0 ≤ b) (b1 : b ≤ 9) (h : UInt8.ofNat (48 + a).toNat = UInt8.ofNat (48 + b).toNat) : a = b := by
  have h1 := dig_u8 a a0 a1
  have h2 := dig_u8 b b0 b1
  rw [h] at h1; omega
theorem text7 (y m d y' m' d' : Int) (h0 : 0 ≤ y) (h1 : y ≤ 9999) (h2 : 0 ≤ m) (h3 : m ≤ 99) (g0 : 0 ≤ y') (g1 : y' ≤ 9999) (g2 : 0 ≤ m') (g3 : m' ≤ 99) :
    (strOfNums (ptext y m d)).extract 0 7 = (strOfNums (ptext y' m' d')).extract 0 7 ↔ (y = y' ∧ m = m') := by
  rw [ptext_take7, ptext_take7]
  constructor
  · intro h
    have hl : (strOfNums ((ptext y m d).take 7)).data.toList = (strOfNums ((ptext y' m' d').take 7)).data.toList := by rw [h]
    rw [strOfNums_data, strOfNums_data] at hl
    simp only [ptext, two, List.cons_append, List.nil_append, List.take_succ_cons, List.take_zero, List.map_cons, List.map_nil, List.cons.injEq, and_true, true_and] at hl
    obtain ⟨e1, e2, e3, e4, e5, e6⟩ := hl
    have k1 := u8_inj _ _ (by omega) (by omega) (by omega) (by omega) e1
    have k2 := u8_inj _ _ (by omega) (by omega) (by omega) (by omega) e2
    have k3 := u8_inj _ _ (by omega) (by omega) (by omega) (by omega) e3
    have k4 := u8_inj _ _ (by omega) (by omega) (by omega) (by omega) e4
    have k5 := u8_inj _ _ (by omega) (by omega) (by omega) (by omega) e5
    have k6 := u8_inj _ _ (by omega) (by omega) (by omega) (by omega) e6
    omega
  · rintro ⟨rfl, rfl⟩; rfl
theorem dtext7 (a b : Int) (ha : isD a = true) (hb : isD b = true) : ((dtext b).extract 0 7 = (dtext a).extract 0 7) ↔ tgB a b = true := by
  obtain ⟨a0, a1⟩ := (isD_iff a).1 ha
  obtain ⟨⟨p1, p2, p3, p4, p5, p6⟩, _⟩ := Cal.civil_ok a a0 a1
  obtain ⟨b0, b1⟩ := (isD_iff b).1 hb
  obtain ⟨⟨q1, q2, q3, q4, q5, q6⟩, _⟩ := Cal.civil_ok b b0 b1
  have e1 : dtext a = strOfNums (ptext (Cal.Y a) (Cal.M a) (Cal.D a)) := by unfold dtext; rw [if_pos ha]
  have e2 : dtext b = strOfNums (ptext (Cal.Y b) (Cal.M b) (Cal.D b)) := by unfold dtext; rw [if_pos hb]
  have c1 : cY a = Cal.Y a := by unfold cY; rw [if_pos ha]
  have c2 : cM a = Cal.M a := by unfold cM; rw [if_pos ha]
  have c3 : cY b = Cal.Y b := by unfold cY; rw [if_pos hb]
  have c4 : cM b = Cal.M b := by unfold cM; rw [if_pos hb]
  rw [e1, e2, text7 _ _ _ _ _ _ (by omega) q2 (by omega) (by omega) (by omega) p2 (by omega) (by omega)]
  unfold tgB; rw [ha, hb, c1, c2, c3, c4]
  simp
  constructor
  · rintro ⟨h, h'⟩; exact ⟨h.symm, h'.symm⟩
  · rintro ⟨h, h'⟩; exact ⟨h.symm, h'.symm⟩
theorem dtext_len (n : Int) (h : isD n = true) : (dtext n).size = 10 := by unfold dtext; rw [if_pos h]; rfl
theorem wk_up (n : Int) (l : List Int) (h : wkB n l = true) : up l n = n := by
  rw [up_eq, if_pos ((wkB_iff n l).1 h).1, if_pos h]
theorem wk_dn (n : Int) (l : List Int) (h : wkB n l = true) : dn l n = n := by
  rw [dn_eq, if_pos ((wkB_iff n l).1 h).1, if_pos h]
theorem adj_wk (n rule : Int) (l : List Int) (h : wkB n l = true) (h0 : 0 ≤ rule) (h3 : rule ≤ 3) : adj n rule l = n := by
  have hd := ((wkB_iff n l).1 h).1
  unfold adj; rw [if_pos ⟨hd, h0, h3⟩, wk_up n l h, wk_dn n l h]
  split
  · rfl
  · split
    · rfl
    · split
      · rfl
      · split <;> rfl
theorem up_bd (l : List Int) (k : Nat) : ∀ n, upF l k n = -1 ∨ isD (upF l k n) = true := by
  induction k with
  | zero => intro n; exact .inl rfl
  | succ k ih =>
    intro n
    unfold upF
    split
    · split
      · rename_i h _; exact .inr h
      · exact ih _
    · exact .inl rfl
set_option maxHeartbeats 4000000 in
theorem radjust_in (n rule : Int) (a : Option Addr) (len cap : Nat) (l : List Int) (w : World) (hl : Ints w a len l) (hd : isD n = true) (r1 : 1 ≤ rule) (r3 : rule ≤ 3) (hw : wkB n l = false) :
    Calls Try.prog 32 #[.int .i64 n, .int .i64 rule, .slice a len cap] w fun e w' => e = .returned (.int .i64 (adj n rule l)) ∧ Below w.heap.size w w' := by
  have HA := Lib.hid (show adj n rule l = (if isD n = true ∧ 0 ≤ rule ∧ rule ≤ 3 then (if rule = 0 then n else if rule = 1 then up l n else if rule = 3 then dn l n else if tgB n (up l n) then up l n else dn l n) else -1) from rfl)
  rw [if_pos ⟨hd, by omega, r3⟩, if_neg (by omega)] at HA
  have HR := Lib.hid (fun (x : Int) (h : adj n rule l = x) => (ret_int h.symm : Ending.returned (.int .i64 x) = .returned (.int .i64 (adj n rule l))))
  have UE := Lib.hid (up_eq l)
  have DE := Lib.hid (dn_eq l)
  have WK := Lib.hid (fun m => rworking_any m a len cap l w hl)
  have U1 := Lib.hid (up_bd l (2932897 - n).toNat n)
  obtain ⟨d0, d1⟩ := (isD_iff n).1 hd
  have HD := Lib.hid hd
  have HW := Lib.hid hw
  have hr0 : (rule == 0) = false := by simp; omega
  have HDT := Lib.hid (fun b => dtext7 n b hd)
  have HSZ := Lib.hid (dtext_len n hd)
  clear hl hd hw
  go_enter Try.func32, Try.ntmps32
  go_wp2_with fail
  refine (WK.out _).mono ?_; rintro e w' ⟨rfl, rfl⟩
  rw [HW.out]
  go_wp2_with fail
  go_loop [7] (fun i => ∃ m : Int, i = .int .i64 m ∧ 0 ≤ m ∧ m ≤ 2932897 ∧ Hid (up l n = up l m)) (fun i => (2932898 - intOf i).toNat)
  case atStart => exact ⟨n, rfl, d0, by omega, rfl⟩
  case round =>
    obtain ⟨m, rfl, m0, m1, HX⟩ := hrel
    by_cases hm : m ≤ 2932896
    · have hmd : isD m = true := (isD_iff m).2 ⟨m0, hm⟩
      cases hwk : wkB m l
      · have HN : Hid (up l n = up l (m + 1)) := by show _ = _; rw [HX.out, UE.out, hmd, hwk]; rfl
        have HV := Lib.hid hwk
        clear hwk hmd
        go_wp2_with fail
        refine (WK.out _).mono ?_; rintro e w' ⟨rfl, rfl⟩
        rw [HV.out]
        go_wp2
        go_round
        case rel => exact ⟨m + 1, rfl, by omega, by omega, HN⟩
        case measure => simp [intOf]; omega
      · have HU : Hid (up l n = m) := by show _ = _; rw [HX.out, UE.out, hmd, hwk]; rfl
        have HV := Lib.hid hwk
        clear hwk hmd
        go_wp2_with fail
        refine (WK.out _).mono ?_; rintro e w' ⟨rfl, rfl⟩
        rw [HV.out]
        go_wp2_with fail
        clear HX HV
        obtain ⟨u, rfl⟩ : ∃ u, m = u := ⟨m, rfl⟩
        go_loop [8] (fun i => ∃ z : Int, i = .int .i64 z ∧ -1 ≤ z ∧ z ≤ 2932896 ∧ Hid (dn l n = dn l z)) (fun i => (intOf i + 1).toNat)
        case atStart => exact ⟨n, rfl, by omega, d1, rfl⟩
        case round =>
          obtain ⟨z, rfl, z0, z1, HZ⟩ := hrel
          by_cases hz : 0 ≤ z
          · have hzd : isD z = true := (isD_iff z).2 ⟨hz, z1⟩
            cases hwk : wkB z l
            · have HN : Hid (dn l n = dn l (z - 1)) := by show _ = _; rw [HZ.out, DE.out, hzd, hwk]; rfl
              have HV := Lib.hid hwk
              clear hwk hzd
              go_wp2_with fail
              refine (WK.out _).mono ?_; rintro e w' ⟨rfl, rfl⟩
              rw [HV.out]
              go_wp2
              go_round
              case rel => exact ⟨z - 1, rfl, by omega, by omega, HN⟩
              case measure => simp [intOf]; omega
            · have HV : Hid (dn l n = z) := by show _ = _; rw [HZ.out, DE.out, hzd, hwk]; rfl
              have HVV := Lib.hid hwk
              clear hwk hzd
              go_wp2_with fail
              refine (WK.out _).mono ?_; rintro e w' ⟨rfl, rfl⟩
              rw [HVV.out]
              clear HZ HVV
              have hrr : rule = 1 ∨ rule = 2 ∨ rule = 3 := by omega
              rcases hrr with rfl | rfl | rfl
              · have FIN := Lib.hid (HR.out m (by rw [HA.out, if_pos rfl, HU.out]))
                go_wp2
                go_ret
                exact ⟨FIN.out, Below.refl _ _⟩
              · have HA2 := Lib.hid (show adj n 2 l = if tgB n m then m else z by rw [HA.out, if_neg (by decide), if_neg (by decide), HU.out, HV.out])
                have hUd : isD m = true := (isD_iff _).2 ⟨by omega, by omega⟩
                have HDB := Lib.hid (HDT.out m hUd)
                have SZB := Lib.hid (dtext_len m hUd)
                clear hUd
                have zb := SZB.out
                have za := HSZ.out
                go_wp2_with fail
                go_region_held3 (fun _ => True) (trivial) (first | (go_at_call_of 30 (Value.int IntKind.i64 m); refine (rprint_any _ _).mono ?_; rintro e w2 ⟨rfl, b2⟩) | (go_at_call_of 30 (Value.int IntKind.i64 n); refine (rprint_any _ _).mono ?_; rintro e w3 ⟨rfl, b3⟩))
                have BB := Lib.hid (((Below.refl w.heap.size w).drew.trans b2).trans (b3.mono b2.size))
                cases ht : tgB n m
                · have HT : Hid ((((dtext m).extract 0 7).toList == ((dtext n).extract 0 7).toList) = false) := by
                    show _ = _
                    have : ¬ ((dtext m).extract 0 7 = (dtext n).extract 0 7) := by rw [HDB.out, ht]; decide
                    exact toList_ne _ _ this
                  have FIN := Lib.hid (HR.out z (by rw [HA2.out, ht]; rfl))
                  clear ht
                  have ht2 := HT.out
                  go_wp2
                  · rename_i hx; exact Bool.noConfusion (hx.symm.trans ht2)
                  · go_ret
                    exact ⟨FIN.out, BB.out⟩
                · have HT : Hid ((((dtext m).extract 0 7).toList == ((dtext n).extract 0 7).toList) = true) := by
                    show _ = _
                    have : ((dtext m).extract 0 7 = (dtext n).extract 0 7) := by rw [HDB.out, ht]
                    rw [this]; exact beq_self_eq_true _
                  have FIN := Lib.hid (HR.out m (by rw [HA2.out, ht]; rfl))
                  clear ht
                  have ht2 := HT.out
                  go_wp2
                  · go_ret
                    exact ⟨FIN.out, BB.out⟩
                  · rename_i hx; exact Bool.noConfusion (hx.symm.trans ht2)
              · have FIN := Lib.hid (HR.out z (by rw [HA.out, if_neg (by decide), if_pos rfl, HV.out]))
                go_wp2
                go_ret
                exact ⟨FIN.out, Below.refl _ _⟩
          · have HV : Hid (dn l n = -1) := by show _ = _; rw [HZ.out, DE.out, if_neg (by rw [isD_iff]; omega)]
            obtain rfl : z = -1 := by omega
            clear HZ z0 z1 hz
            have hrr : rule = 1 ∨ rule = 2 ∨ rule = 3 := by omega
            rcases hrr with rfl | rfl | rfl
            · have FIN := Lib.hid (HR.out m (by rw [HA.out, if_pos rfl, HU.out]))
              go_wp2
              go_ret
              exact ⟨FIN.out, Below.refl _ _⟩
            · have HA2 := Lib.hid (show adj n 2 l = if tgB n m then m else (-1) by rw [HA.out, if_neg (by decide), if_neg (by decide), HU.out, HV.out])
              have hUd : isD m = true := (isD_iff _).2 ⟨by omega, by omega⟩
              have HDB := Lib.hid (HDT.out m hUd)
              have SZB := Lib.hid (dtext_len m hUd)
              clear hUd
              have zb := SZB.out
              have za := HSZ.out
              go_wp2_with fail
              go_region_held3 (fun _ => True) (trivial) (first | (go_at_call_of 30 (Value.int IntKind.i64 m); refine (rprint_any _ _).mono ?_; rintro e w2 ⟨rfl, b2⟩) | (go_at_call_of 30 (Value.int IntKind.i64 n); refine (rprint_any _ _).mono ?_; rintro e w3 ⟨rfl, b3⟩))
              have BB := Lib.hid (((Below.refl w.heap.size w).drew.trans b2).trans (b3.mono b2.size))
              cases ht : tgB n m
              · have HT : Hid ((((dtext m).extract 0 7).toList == ((dtext n).extract 0 7).toList) = false) := by
                  show _ = _
                  have : ¬ ((dtext m).extract 0 7 = (dtext n).extract 0 7) := by rw [HDB.out, ht]; decide
                  exact toList_ne _ _ this
                have FIN := Lib.hid (HR.out (-1) (by rw [HA2.out, ht]; rfl))
                clear ht
                have ht2 := HT.out
                go_wp2
                · rename_i hx; exact Bool.noConfusion (hx.symm.trans ht2)
                · go_ret
                  exact ⟨FIN.out, BB.out⟩
              · have HT : Hid ((((dtext m).extract 0 7).toList == ((dtext n).extract 0 7).toList) = true) := by
                  show _ = _
                  have : ((dtext m).extract 0 7 = (dtext n).extract 0 7) := by rw [HDB.out, ht]
                  rw [this]; exact beq_self_eq_true _
                have FIN := Lib.hid (HR.out m (by rw [HA2.out, ht]; rfl))
                clear ht
                have ht2 := HT.out
                go_wp2
                · go_ret
                  exact ⟨FIN.out, BB.out⟩
                · rename_i hx; exact Bool.noConfusion (hx.symm.trans ht2)
            · have FIN := Lib.hid (HR.out (-1) (by rw [HA.out, if_neg (by decide), if_pos rfl, HV.out]))
              go_wp2
              go_ret
              exact ⟨FIN.out, Below.refl _ _⟩
    · have hme : m = 2932897 := by omega
      have HU : Hid (up l n = -1) := by show _ = _; rw [HX.out, UE.out, if_neg (by rw [isD_iff]; omega)]
      go_wp2_with fail
      clear HX m0 hm hme m1
      go_loop [8] (fun i => ∃ z : Int, i = .int .i64 z ∧ -1 ≤ z ∧ z ≤ 2932896 ∧ Hid (dn l n = dn l z)) (fun i => (intOf i + 1).toNat)
      case atStart => exact ⟨n, rfl, by omega, d1, rfl⟩
      case round =>
        obtain ⟨z, rfl, z0, z1, HZ⟩ := hrel
        by_cases hz : 0 ≤ z
        · have hzd : isD z = true := (isD_iff z).2 ⟨hz, z1⟩
          cases hwk : wkB z l
          · have HN : Hid (dn l n = dn l (z - 1)) := by show _ = _; rw [HZ.out, DE.out, hzd, hwk]; rfl
            have HV := Lib.hid hwk
            clear hwk hzd
            go_wp2_with fail
            refine (WK.out _).mono ?_; rintro e w' ⟨rfl, rfl⟩
            rw [HV.out]
            go_wp2
            go_round
            case rel => exact ⟨z - 1, rfl, by omega, by omega, HN⟩
            case measure => simp [intOf]; omega
          · have HV : Hid (dn l n = z) := by show _ = _; rw [HZ.out, DE.out, hzd, hwk]; rfl
            have HVV := Lib.hid hwk
            clear hwk hzd
            go_wp2_with fail
            refine (WK.out _).mono ?_; rintro e w' ⟨rfl, rfl⟩
            rw [HVV.out]
            clear HZ HVV
            have hrr : rule = 1 ∨ rule = 2 ∨ rule = 3 := by omega
            rcases hrr with rfl | rfl | rfl
            · have FIN := Lib.hid (HR.out (-1) (by rw [HA.out, if_pos rfl, HU.out]))
              go_wp2
              go_ret
              exact ⟨FIN.out, Below.refl _ _⟩
            · have HT0 : Hid (tgB n (-1) = false) := by show _ = _; unfold tgB; simp [show isD (-1) = false from rfl]
              have FIN := Lib.hid (HR.out z (by rw [HA.out, if_neg (by decide), if_neg (by decide), HU.out, HT0.out, HV.out]; rfl))
              go_wp2_with fail
              go_quiet (fail)
              go_wp2
              go_ret
              exact ⟨FIN.out, below_drewN (Below.refl _ _) _⟩
            · have FIN := Lib.hid (HR.out z (by rw [HA.out, if_neg (by decide), if_pos rfl, HV.out]))
              go_wp2
              go_ret
              exact ⟨FIN.out, Below.refl _ _⟩
        · have HV : Hid (dn l n = -1) := by show _ = _; rw [HZ.out, DE.out, if_neg (by rw [isD_iff]; omega)]
          obtain rfl : z = -1 := by omega
          clear HZ z0 z1 hz
          have hrr : rule = 1 ∨ rule = 2 ∨ rule = 3 := by omega
          rcases hrr with rfl | rfl | rfl
          · have FIN := Lib.hid (HR.out (-1) (by rw [HA.out, if_pos rfl, HU.out]))
            go_wp2
            go_ret
            exact ⟨FIN.out, Below.refl _ _⟩
          · have HT0 : Hid (tgB n (-1) = false) := by show _ = _; unfold tgB; simp [show isD (-1) = false from rfl]
            have FIN := Lib.hid (HR.out (-1) (by rw [HA.out, if_neg (by decide), if_neg (by decide), HU.out, HT0.out, HV.out]; rfl))
            go_wp2_with fail
            go_quiet (fail)
            go_wp2
            go_ret
            exact ⟨FIN.out, below_drewN (Below.refl _ _) _⟩
          · have FIN := Lib.hid (HR.out (-1) (by rw [HA.out, if_neg (by decide), if_pos rfl, HV.out]))
            go_wp2
            go_ret
            exact ⟨FIN.out, Below.refl _ _⟩
theorem radjust_any (n rule : Int) (a : Option Addr) (len cap : Nat) (l : List Int) (w : World) (hl : Ints w a len l) :
    Calls Try.prog 32 #[.int .i64 n, .int .i64 rule, .slice a len cap] w fun e w' => e = .returned (.int .i64 (adj n rule l)) ∧ Below w.heap.size w w' := by
  have HR := Lib.hid (fun (x : Int) (h : adj n rule l = x) => (ret_int h.symm : Ending.returned (.int .i64 x) = .returned (.int .i64 (adj n rule l))))
  by_cases h : isD n = true ∧ 0 ≤ rule ∧ rule ≤ 3
  case neg =>
    have FIN := Lib.hid (HR.out (-1) (by unfold adj; rw [if_neg h]))
    by_cases h0 : n < 0
    · clear h; go_enter Try.func32, Try.ntmps32
      go_wp2
      go_ret
      exact ⟨FIN.out, Below.refl _ _⟩
    by_cases h1 : 2932896 < n
    · clear h; go_enter Try.func32, Try.ntmps32
      go_wp2
      go_ret
      exact ⟨FIN.out, Below.refl _ _⟩
    by_cases h2 : rule < 0
    · clear h; go_enter Try.func32, Try.ntmps32
      go_wp2
      go_ret
      exact ⟨FIN.out, Below.refl _ _⟩
    have h3 : 3 < rule := by
      have : isD n = true := (isD_iff n).2 ⟨by omega, by omega⟩
      simp [this] at h; omega
    clear h; go_enter Try.func32, Try.ntmps32
    go_wp2
    go_ret
    exact ⟨FIN.out, Below.refl _ _⟩
  obtain ⟨hd, r0, r3⟩ := h
  obtain ⟨d0, d1⟩ := (isD_iff n).1 hd
  by_cases hr : rule = 0
  · have FIN := Lib.hid (HR.out n (by unfold adj; rw [if_pos ⟨hd, r0, r3⟩, if_pos hr]))
    subst hr
    clear hd
    go_enter Try.func32, Try.ntmps32
    go_wp2
    go_ret
    exact ⟨FIN.out, Below.refl _ _⟩
  cases hw : wkB n l
  · exact radjust_in n rule a len cap l w hl hd (by omega) r3 hw
  · have FIN := Lib.hid (HR.out n (adj_wk n rule l hw r0 r3))
    have WK := Lib.hid (rworking_any n a len cap l w hl)
    rw [hw] at WK
    have hr0 : (rule == 0) = false := by simp [hr]
    clear hd hw hl hr
    go_enter Try.func32, Try.ntmps32
    go_wp2_with fail
    refine WK.out.mono ?_; rintro e w' ⟨rfl, rfl⟩
    go_wp2
    go_ret
    exact ⟨FIN.out, Below.refl _ _⟩
end Go.Proofs.Ytokinadmeooaoaa
