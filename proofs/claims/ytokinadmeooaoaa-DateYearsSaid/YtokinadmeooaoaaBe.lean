import Derived.Test.YtokinadmeooaoaaBd
namespace Go.Proofs.Ytokinadmeooaoaa
open Go.RowKit
/-- A slice that reads as the digits of n. -/
def MagR (w : World) (v : Value) (n : Nat) : Prop := ∃ a len cap l, v = .slice a len cap ∧ Nums w a len cap l ∧ Big.Norm l ∧ Big.val l = n
/-- A number with its sign. -/
def sg (neg : Bool) (n : Nat) : Int := if neg then -(n : Int) else n
def BigR (w : World) (v : Value) (z : Int) : Prop := ∃ m, v = .agg #[.bool (decide (z < 0)), m] ∧ MagR w m z.natAbs
theorem MagR.below {w w' : World} {v : Value} {n : Nat} (h : MagR w v n) (hb : Below w.heap.size w w') : MagR w' v n := by
  obtain ⟨a, len, cap, l, rfl, h1, h2, h3⟩ := h
  exact ⟨a, len, cap, l, rfl, h1.below hb, h2, h3⟩
theorem BigR.below {w w' : World} {v : Value} {n : Int} (h : BigR w v n) (hb : Below w.heap.size w w') : BigR w' v n := by
  obtain ⟨m, rfl, h1⟩ := h
  exact ⟨m, rfl, h1.below hb⟩
theorem MagR.small {w : World} {a : Option Addr} {len cap : Nat} {l : List Nat} {k : Nat} (h : Nums w a len cap l) (hn : Big.Norm l) (hv : Big.val l < Big.pw k) : len ≤ k := by
  rw [← h.1]; exact hn.length_le hv
theorem MagR.trim {w : World} {b : Option Addr} {cap : Nat} {out : List Nat} (h : Nums w b (Big.trim out).length cap (Big.trim out)) (hd : Big.Dig out) : MagR w (.slice b (Big.trim out).length cap) (Big.val out) :=
  ⟨_, _, _, _, rfl, h, (Big.trim_spec out hd).1, (Big.trim_spec out hd).2.1⟩
theorem add_any (u v : Value) (m n : Nat) (w : World) (hu : MagR w u m) (hv : MagR w v n) (bm : m < Big.pw 1000000) (bn : n < Big.pw 1000000) :
    Calls Try.prog 62 #[u, v] w fun e w' => (∃ r, e = .returned r ∧ MagR w' r (m + n)) ∧ Below w.heap.size w w' := by
  obtain ⟨a, len, cap, l, rfl, h1, h2, rfl⟩ := hu
  obtain ⟨a', len', cap', l', rfl, h1', h2', rfl⟩ := hv
  refine (add_in a len cap l a' len' cap' l' w h1 h1' h2.1 h2'.1 (MagR.small h1 h2 bm) (MagR.small h1' h2' bn)).mono ?_
  rintro e w' ⟨⟨out, b, cap2, rfl, hn, hd, hv, _⟩, hb⟩
  exact ⟨⟨_, rfl, by rw [← hv.out]; exact MagR.trim hn hd⟩, hb⟩
theorem sub_any (u v : Value) (m n : Nat) (w : World) (hu : MagR w u m) (hv : MagR w v n) (bm : m < Big.pw 1000000) (hle : n ≤ m) :
    Calls Try.prog 64 #[u, v] w fun e w' => (∃ r, e = .returned r ∧ MagR w' r (m - n)) ∧ Below w.heap.size w w' := by
  obtain ⟨a, len, cap, l, rfl, h1, h2, rfl⟩ := hu
  obtain ⟨a', len', cap', l', rfl, h1', h2', rfl⟩ := hv
  have hl : len' ≤ len := by
    rcases Nat.lt_or_ge len len' with h | h
    · have := h2.length_lt_val h2' (by rw [h1.1, h1'.1]; exact h); omega
    · exact h
  refine (sub_in a len cap l a' len' cap' l' w h1 h1' h2.1 h2'.1 (MagR.small h1 h2 bm) hl).mono ?_
  rintro e w' ⟨⟨out, b, cap2, rfl, hn, hd, hv, hlo⟩, hb⟩
  refine ⟨⟨_, rfl, ?_⟩, hb⟩
  have hlt := Big.val_lt hd
  obtain ⟨c, hc, hv⟩ := hv.out
  rw [hlo] at hlt
  have hc0 : c = 0 := by
    rcases Nat.eq_zero_or_pos c with h | h
    · exact h
    · have : c = 1 := by omega
      subst this; omega
  subst hc0
  have e : Big.val out = Big.val l - Big.val l' := by omega
  rw [← e]; exact MagR.trim hn hd
def cmpN (m n : Nat) : Int := if m < n then -1 else if m = n then 0 else 1
theorem cmpm_any (u v : Value) (m n : Nat) (w : World) (hu : MagR w u m) (hv : MagR w v n) :
    Calls Try.prog 63 #[u, v] w fun e w' => e = .returned (.int .i64 (cmpN m n)) ∧ Below w.heap.size w w' := by
  obtain ⟨a, len, cap, l, rfl, h1, h2, rfl⟩ := hu
  obtain ⟨a', len', cap', l', rfl, h1', h2', rfl⟩ := hv
  exact cmp_any a len cap l a' len' cap' l' w h1 h1' h2 h2'
theorem MagR.zero {w : World} {a : Option Addr} {len cap n : Nat} {l : List Nat} (h1 : Nums w a len cap l) (h2 : Big.Norm l) (h3 : Big.val l = n) : len = 0 ↔ n = 0 := by
  rw [← h3, ← h2.nil_iff, ← h1.1]; exact List.length_eq_zero_iff
theorem sg_lt (neg : Bool) (n : Nat) : decide (sg neg n < 0) = (neg && decide (0 < n)) := by
  unfold sg; cases neg <;> simp <;> omega
theorem sg_abs (neg : Bool) (n : Nat) : (sg neg n).natAbs = n := by
  unfold sg; cases neg <;> simp
theorem sign_any (neg : Bool) (v : Value) (n : Nat) (w : World) (hv : MagR w v n) :
    Calls Try.prog 55 #[.bool neg, v] w fun e w' => (∃ r, e = .returned r ∧ BigR w' r (sg neg n)) ∧ Below w.heap.size w w' := by
  obtain ⟨a, len, cap, l, rfl, h1, h2, h3⟩ := hv
  have hz := MagR.zero h1 h2 h3
  have HM := Lib.hid (show MagR w (.slice a len cap) n from ⟨a, len, cap, l, rfl, h1, h2, h3⟩)
  have HF := Lib.hid (fun (b : Bool) (w' : World) (hb : Below w.heap.size w w') (he : decide (sg neg n < 0) = b) =>
    (⟨⟨_, rfl, ⟨.slice a len cap, by rw [he], by rw [sg_abs]; exact HM.out.below hb⟩⟩, hb⟩ : (∃ r, Ending.returned (.agg #[.bool b, .slice a len cap]) = .returned r ∧ BigR w' r (sg neg n)) ∧ Below w.heap.size w w'))
  have HE := Lib.hid (sg_lt neg n)
  have hl := h1.2.1
  have hl2 := h1.2.2.1
  clear h1 h2 h3
  cases neg with
  | false =>
    have e0 : Hid (decide (sg false n < 0) = false) := by show _ = _; rw [HE.out]; rfl
    clear hz
    go_enter Try.func55, Try.ntmps55
    go_wp2
    exact bodyPost_ret (v := .agg #[.bool false, .slice a len cap]) (by simp [results, Try.results55, go_sem]) rfl (HF.out _ _ ((Below.refl _ _).alloc (Nat.le_refl _) _) e0.out)
  | true =>
    by_cases hp : 0 < n
    · have hlp : 0 < len := by omega
      have e0 : Hid (decide (sg true n < 0) = true) := by show _ = _; rw [HE.out]; simp [hp]
      clear hz hp
      go_enter Try.func55, Try.ntmps55
      go_wp2
      exact bodyPost_ret (v := .agg #[.bool true, .slice a len cap]) (by simp [results, Try.results55, go_sem]) rfl (HF.out _ _ ((Below.refl _ _).alloc (Nat.le_refl _) _) e0.out)
    · have hlp : len = 0 := by omega
      have e0 : Hid (decide (sg true n < 0) = false) := by show _ = _; rw [HE.out]; simp [hp]
      subst hlp
      clear hz hp
      go_enter Try.func55, Try.ntmps55
      go_wp2
      exact bodyPost_ret (v := .agg #[.bool false, .slice a 0 cap]) (by simp [results, Try.results55, go_sem]) rfl (HF.out _ _ ((Below.refl _ _).alloc (Nat.le_refl _) _) e0.out)
theorem Nums.put2 {w : World} {a : Option Addr} {len cap g : Nat} {l : List Nat} {t : TypeId} {b0 : Bool} {a0 : Option Addr} {l0 c0 : Nat} {x y : Value} (h : Nums w a len cap l) (hB : Mem.Blk w g t #[.bool b0, .slice a0 l0 c0]) : Nums ((w.setCell ⟨g, 0, none⟩ x).setCell ⟨g, 1, none⟩ y) a len cap l := by
  obtain ⟨h1, h2, h2', h3⟩ := h
  refine ⟨h1, h2, h2', fun hp => ?_⟩
  obtain ⟨b, o, ha, hlt, hc⟩ := h3 hp
  have hne : b ≠ g := by
    rintro rfl
    have e := hc 0 (l.getD 0 0) (by rw [List.getD_eq_getElem?_getD, List.getElem?_eq_getElem (by omega)]; rfl)
    rw [hB.cell] at e
    match o, e with
    | 0, e => cases e
    | 1, e => cases e
    | k + 2, e => simp at e
  refine ⟨b, o, ha, by simpa [World.setCell] using hlt, fun i v hv => ?_⟩
  have e1 : ((w.setCell ⟨g, 0, none⟩ x).setCell ⟨g, 1, none⟩ y).heap[b]? = w.heap[b]? := by
    rw [Below.heap_setCell _ _ _ _ hne, Below.heap_setCell _ _ _ _ hne]
  rw [World.cell?_of_block (w := w) e1]
  exact hc i v hv
theorem BigR.put2 {w : World} {r : Value} {z : Int} {g : Nat} {t : TypeId} {b0 : Bool} {a0 : Option Addr} {l0 c0 : Nat} {x y : Value} (h : BigR w r z) (hB : Mem.Blk w g t #[.bool b0, .slice a0 l0 c0]) : BigR ((w.setCell ⟨g, 0, none⟩ x).setCell ⟨g, 1, none⟩ y) r z := by
  obtain ⟨m, rfl, a, len, cap, l, rfl, h1, h2, h3⟩ := h
  exact ⟨_, rfl, a, len, cap, l, rfl, h1.put2 hB, h2, h3⟩
theorem bigr_not (z : Int) : sg (!decide (z < 0)) z.natAbs = -z := by
  unfold sg
  by_cases h : z < 0
  · simp [h]; omega
  · simp [h]; omega
theorem minus_any (v : Value) (z : Int) (w : World) (hv : BigR w v z) :
    Calls Try.prog 78 #[v] w fun e w' => (∃ r, e = .returned r ∧ BigR w' r (-z)) ∧ Below w.heap.size w w' := by
  obtain ⟨m, rfl, hm⟩ := hv
  have HN := Lib.hid (bigr_not z)
  have HM := Lib.hid hm
  obtain ⟨a, len, cap, l, rfl, h1, h2, h3⟩ := hm
  clear h1 h2 h3
  go_enter Try.func78, Try.ntmps78
  go_wp2_with fail
  refine (sign_any _ _ z.natAbs _ (HM.out.below (((Below.refl _ _).alloc (Nat.le_refl _) _).alloc (by simp) _))).mono ?_
  rintro e w1 ⟨⟨r, rfl, hr⟩, b1⟩
  rw [HN.out] at hr
  have bw1 : Below w.heap.size w w1 := (((Below.refl _ _).alloc (Nat.le_refl _) _).alloc (by simp) _).trans (b1.mono (by simp; omega))
  have B1 := (Mem.Blk.new (w.alloc (.cells #[.bool (decide (z < 0)), .slice a len cap] 64)) 64 #[.bool false, .slice none 0 0]).below b1
  have hr2 := hr
  obtain ⟨m2, rfl, a2, len2, cap2, l2, rfl, h1, h2, h3⟩ := hr
  have HR := Lib.hid (fun x y => hr2.put2 (x := x) (y := y) B1)
  clear hr2
  obtain ⟨c0, c1, f0, f1⟩ := B1.two
  have e1 : (w.alloc (.cells #[.bool (decide (z < 0)), .slice a len cap] 64)).heap.size = w.heap.size + 1 := by simp
  rw [e1] at c0 c1 f0 f1 HR
  clear h1 h2 h3 b1 B1
  go_wp2
  refine bodyPost_ret (v := .agg #[.bool (decide (-z < 0)), .slice a2 len2 cap2]) (by simp [results, Try.results78, go_sem, c0, c1]) rfl ⟨⟨_, rfl, HR.out _ _⟩, ?_⟩
  exact (bw1.setCell (by simp) _).setCell (by simp) _
end Go.Proofs.Ytokinadmeooaoaa
