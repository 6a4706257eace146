/- A part of the proof: LkS, LkC, one behind another. -/
import Derived.Test.YtgbiimoednmlgaaMOA
import Derived.Test.YtgbiimoednmlgaaMOB
import Derived.Test.YtgbiimoednmlgaaMOC
import Derived.Test.YtgbiimoednmlgaaMOD
import Derived.Test.YtgbiimoednmlgaaMOE
import Derived.Test.YtgbiimoednmlgaaMOF
import Derived.Test.YtgbiimoednmlgaaMOG
import Derived.Test.YtgbiimoednmlgaaMOH
import Derived.Test.YtgbiimoednmlgaaMOI
import Derived.Test.YtgbiimoednmlgaaMOJ
import Derived.Test.YtgbiimoednmlgaaMOK
/- slices.SortFunc over accounts: its contract. -/
namespace Go.Proofs.Ytgbiimoednmlgaa
set_option linter.unusedVariables false
set_option linter.unusedSimpArgs false
open Go.Shelf Go.RowKit Go.Lib Go.Sort
theorem ltOf_k {x y : Acct} : ltOf (fun x y : Acct => kcmp x.key y.key) x y = true ↔ klt x.key y.key := by
  unfold ltOf
  rw [decide_eq_true_iff]
  exact kcmp_neg
theorem ltOf_kn {x y : Acct} : ltOf (fun x y : Acct => kcmp x.key y.key) x y = false ↔ ¬ klt x.key y.key := by
  rw [← ltOf_k, Bool.not_eq_true]
theorem swoK : SWO (ltOf fun x y : Acct => kcmp x.key y.key) where
  irrefl x := ltOf_kn.2 (klt_irrefl _)
  trans x y z h1 h2 := ltOf_k.2 (klt_trans (ltOf_k.1 h1) (ltOf_k.1 h2))
  ntrans x y z h1 h2 := by
    have n1 := ltOf_kn.1 h1
    have n2 := ltOf_kn.1 h2
    refine ltOf_kn.2 fun h => ?_
    rcases klt_total x.key y.key with a | a | a
    · exact n1 a
    · rw [a] at h; exact n2 h
    · exact n2 (klt_trans a h)
theorem sorted_wkUp {d : Array Acct} (h : SortedIn (ltOf fun x y : Acct => kcmp x.key y.key) 0 d.size d) : WkUp d.toList := by
  unfold WkUp
  rw [List.pairwise_iff_getElem]
  intro i j hi hj hij
  rw [Array.length_toList] at hi hj
  have h1 := ltOf_kn.1 (h i j (Nat.zero_le _) hij hj)
  rw [getElem!_pos d i hi, getElem!_pos d j hj] at h1
  exact h1
theorem permIn_perm {d d' : Array Acct} (h : PermIn 0 d.size d d') : d'.toList.Perm d.toList := by
  have h3 := h.2.2
  rw [show d.extract 0 d.size = d by simp, show d'.extract 0 d.size = d' by rw [← h.1]; simp] at h3
  exact h3
theorem holdsA {w : World} {base g n cap : Nat} {l : List Acct} (h : w.ownsRow base 51 3 (.slice (some ⟨g, 0, none⟩) n cap) n (outR l)) (hn : l.length = n) : HoldsK acctC 3 w g 0 l.toArray := by
  intro j hj
  have hj' : j < n * 3 := by rw [size_flatK] at hj; simpa [hn] using hj
  refine ⟨?_, h.frozenAt _⟩
  rw [Nat.zero_add, h.cellAt j hj', ← flatK_outR l, Array.getElem?_toList, Array.getElem?_eq_getElem hj]
  rw [getElem!_pos (flatK acctC 3 l.toArray) j hj]
  rfl
theorem isAggA : ∀ w, (isAgg (sortAc_ren.t 24)).run Try.prog w = .ok true w := fun w => by kernel_rfl
theorem sizeOfA : ∀ w, (Go.sizeOf (sortAc_ren.t 24)).run Try.prog w = .ok 3 w := fun w => by kernel_rfl
set_option maxRecDepth 100000 in
set_option maxHeartbeats 8000000 in
theorem sortA_any (l : List Acct) (base : Nat) (a : Option Addr) (n cap : Nat) (w : World) (h : w.ownsRow base 51 3 (.slice a n cap) n (outR l)) (hn : l.length = n) (hlen : n ≤ 100000) :
    Calls Try.prog 59 #[.slice a n cap, .func (.func 48) #[] #[]] w fun x w' => x = .returned (.tuple #[]) ∧ (∃ l' : List Acct, l'.Perm l ∧ WkUp l' ∧ w'.ownsRow base 51 3 (.slice a n cap) n (outR l')) ∧ w.grownBy w' (Value.slice a n cap).ownBlock := by
  rcases Nat.eq_zero_or_pos n with h0 | hp
  · subst h0
    have hl : l = [] := List.length_eq_zero_iff.1 hn
    subst hl
    refine (AnyF.slices_SortFunc_none sortAc a cap _ w).mono ?_
    rintro x w' ⟨rfl, rfl⟩
    exact ⟨rfl, ⟨[], List.Perm.refl _, List.Pairwise.nil, h⟩, World.grownBy.refl _ _⟩
  · obtain ⟨g, cap', hv, -⟩ := own_form h hp
    injection hv with e1 _ e3
    subst e1; subst e3
    have hg : g < w.heap.size := by
      rcases h.2 with ⟨e0, _⟩ | ⟨g', cap', cur, e0, hb, hg, _⟩
      · cases e0
      · injection e0 with e1 _ _
        injection e1 with e1
        injection e1 with e1
        subst e1
        exact (Array.getElem?_eq_some_iff.1 hg).1
    have hs : l.toArray.size = n := by simpa using hn
    have hcon := AnyQ.slices_SortFunc sortAc 3 isAggA sizeOfA acctC (fun _ => rfl) (fun x v hv => by simp [acctC] at hv; rcases hv with rfl | rfl | rfl <;> rfl) (fun x y : Acct => kcmp x.key y.key) swoK 48 #[] g 0 cap l.toArray w (enters_of Try.func48 (by kernel_rfl) rfl) (fun m os dk _ x y => order_grow x y _) (holdsA h hn) hg (by omega)
    rw [hs] at hcon
    refine Calls.mono hcon ?_
    rintro x w' ⟨rfl, d', m, os, hperm, hsort, rfl⟩
    rw [← hs] at hperm hsort
    have hd : d'.size = n := hperm.1.trans hs
    rw [← hperm.1] at hsort
    have hrow := row_putRow (q := m) (os := os) h (ys := outR d'.toList) (by rw [outR_len, Array.length_toList, hd])
    have e : (outR d'.toList).toArray = flatK acctC 3 d' := by
      rw [← flatK_outR d'.toList]
    rw [e] at hrow
    have hpl := permIn_perm hperm
    exact ⟨rfl, ⟨d'.toList, hpl, sorted_wkUp hsort, hrow.1⟩, hrow.2⟩
end Go.Proofs.Ytgbiimoednmlgaa

/- What moves touch: the program's, walked; the document's. -/
namespace Go.Proofs.Ytgbiimoednmlgaa
set_option linter.unusedVariables false
set_option linter.unusedSimpArgs false
open Go.RowKit Go.ChangeShapes
def ktC (a : Acct) : List Value := [.string a.party, .string a.coin]
def outP (l : List Acct) : List Value := (l.map ktC).flatten
theorem outP_append (a b : List Acct) : outP (a ++ b) = outP a ++ outP b := by unfold outP; rw [List.map_append, List.flatten_append]
theorem outP_one (a : Acct) : outP [a] = ktC a := by unfold outP; simp
def ktK : Elt Acct where
  sz := 2
  pos := by decide
  R := fun _ _ a cs => cs = ktC a
  kept := fun h _ => h
  less := fun h _ => h
  one := fun h => by subst h; exact ⟨rfl, by simp [ktC, Value.oneCell']⟩
theorem kt_at {w : World} {X : List Nat} {l : List Acct} {a : Option Addr} {len cap : Nat} (h : SlR ktK w X l a len cap) (k : Nat) (hk : k < len) :
    ∃ b o x, a = some ⟨b, o, none⟩ ∧ l[k]? = some x ∧ w.cell? ⟨b, o + k * 2, none⟩ = some (.string x.party) ∧ w.cell? ⟨b, o + k * 2 + 1, none⟩ = some (.string x.coin) := by
  obtain ⟨b, o, f, cs, ha, hb, hX, hf, rfl, -, hc⟩ := h.at k hk
  exact ⟨b, o, f, ha, hf, hc 0 _ rfl, hc 1 _ rfl⟩
theorem outP_any {t : TypeId} {w0 w : World} {v : Value} {l : List Acct} (h : w.ownsRow w0.heap.size t 2 v l.length (outP l)) (hb : Below w0.heap.size w0 w) : ∃ a c, v = .slice a l.length c ∧ SlR ktK w [] l a l.length c := by
  obtain ⟨a, c, rfl, hsl, -⟩ := own_sl (w0 := w0) (X := []) ⟨hb, h⟩ (by rw [List.length_map]) (fun c hc => by obtain ⟨s, _, rfl⟩ := List.mem_map.1 hc; rfl) (fun b hb => by cases hb)
  refine ⟨a, c, rfl, ⟨l.map ktC, by rw [List.length_map], fun i x cs hx hc => ?_, hsl⟩⟩
  rw [List.getElem?_map, hx] at hc
  injection hc with hc
  exact hc.symm
theorem below_nL (w : World) (o : Obj) : Below w.heap.size w (w.alloc o) := (Below.refl w.heap.size w).alloc (Nat.le_refl _) o
theorem infoP : (Try.prog.info? 57).map (fun i => (i.zero, i.size, i.bytes)) = some (some (.agg #[.string ⟨#[]⟩, .string ⟨#[]⟩]), 2, 32) := by kernel_rfl
theorem zM_len (m : List Mv) : (m.flatMap zM).length = 2 * m.length := by
  induction m with
  | nil => rfl
  | cons x t ih => rw [List.flatMap_cons, List.length_append, ih]; show 2 + 2 * t.length = 2 * (t.length + 1); omega
theorem zM_zero {m : List Mv} : Zs (m.flatMap zM) := by
  intro a ha
  obtain ⟨x, hx, hxa⟩ := List.mem_flatMap.1 ha
  unfold zM at hxa
  rw [List.mem_cons, List.mem_singleton] at hxa
  rcases hxa with rfl | rfl <;> rfl
/-- What moves touch. -/
structure Tch (m : List Mv) (r : List Acct) : Prop where
  up : UpK Acct.key r
  mem : ∀ a, a ∈ r ↔ a ∈ m.flatMap zM
theorem Tch.uniq {m : List Mv} {r s : List Acct} (x : Tch m r) (y : Tch m s) : r = s := up_ext (fun a b h => nomatch h) x.up y.up (fun a => (x.mem a).trans (y.mem a).symm)
theorem tch_keys {m : List Mv} {out : List Acct} (h : KeySt out (allK [] m)) : Tch m out := by
  have e : allK [] m = m.flatMap zM := by unfold allK; rfl
  rw [e] at h
  refine ⟨h.up, fun a => ⟨h.sub a, fun ha => ?_⟩⟩
  obtain ⟨b, hb, hk⟩ := h.all a ha
  have e : b = a := acct_ext hk ((zM_zero b (h.sub b hb)).trans (zM_zero a ha).symm)
  rw [← e]; exact hb
theorem tch_cp {m : List Mv} {l r : List Acct} (hp : l.Perm (m.flatMap zM)) (h : CpFin l r) : Tch m r := ⟨h.up, fun a => (h.mem a).trans hp.mem_iff⟩
set_option maxRecDepth 100000 in
set_option maxHeartbeats 8000000 in
theorem touched_any (m : List Mv) (ma : Option Addr) (ml mc : Nat) (w : World) (hm : SlR mvK w [] m ma ml mc) (hml : ml ≤ 1000) :
    Calls Try.prog 27 #[.slice ma ml mc] w fun x w' => (∃ (r : List Acct) (a : Option Addr) (c : Nat), x = .returned (.slice a r.length c) ∧ SlR ktK w' [] r a r.length c ∧ Tch m r ∧ r.length ≤ 2 * ml) ∧ Below w.heap.size w w' := by
  have HM := Lib.hid hm
  have HML := Lib.hid hm.facts.1
  have HMB := Lib.hid hml
  clear hm hml
  go_enter Try.func27, Try.ntmps27
  go_wp2_with fail
  go_loopw [3, 11] (fun v i wr => ∃ (j : Nat) (oa : Option Addr) (oc : Nat), v = .slice oa (2 * j) oc ∧ i = .int .i64 (j : Nat) ∧ j ≤ ml ∧ Hid (wr.ownsRow w.heap.size 51 3 (.slice oa (2 * j) oc) (2 * j) (outR ((m.take j).flatMap zM)) ∧ Below w.heap.size w wr)) (fun _ i _ => ml - (intOf i).toNat)
  case atStart => exact ⟨0, none, 0, rfl, rfl, Nat.zero_le _, World.ownsRow_nil _ _ _ _, Below.refl _ _⟩
  case round =>
    rename World => w3
    obtain ⟨j, oa, oc, rfl, rfl, hj, HR⟩ := hrel
    have k1 : (j : Int) ≤ 1000 := by have := HMB.out; omega
    by_cases hjt : j < ml
    · have hjt' : (j : Int) < (ml : Int) := by omega
      have k0 : (0 : Int) ≤ (j : Int) := by omega
      obtain ⟨b, o, x, ha, hx, -, u0, u1, u2, u3⟩ := mv_at (HM.out.kept (Kept.of_below HR.out.2 [])) j hjt
      have HA := Lib.hid ha
      subst ha
      have HX : Hid ((m.take (j + 1)).flatMap zM = (m.take j).flatMap zM ++ [⟨x.src, x.coin, 0⟩, ⟨x.dst, x.coin, 0⟩]) := by
        obtain ⟨hk1, e1⟩ := List.getElem?_eq_some_iff.1 hx
        show _ = _
        rw [← List.take_append_getElem hk1, e1, List.flatMap_append, List.flatMap_singleton]; rfl
      have HKT := Lib.hid hjt
      have hal := below_nL w3 (.cells #[.string x.src, .string x.dst, .string x.coin, .int .i64 x.amt] 72)
      have BF := Lib.hid (Mem.Blk.new w3 72 #[.string x.src, .string x.dst, .string x.coin, .int .i64 x.amt])
      have HO := Lib.hid (own_below HR.out.1 hal)
      have HB := Lib.hid (HR.out.2.trans (hal.mono HR.out.2.size))
      clear hx hjt hal HR
      go_upto_region 5 with (fail)
      generalize w3.alloc (.cells #[.string x.src, .string x.dst, .string x.coin, .int .i64 x.amt] 72) = w4 at *
      generalize w3.heap.size = fb at *
      clear u0 u1 u2 u3
      have c0 : w4.cell? ⟨fb, 0, none⟩ = some (.string x.src) := BF.out.cell 0
      have c1 : w4.cell? ⟨fb, 1, none⟩ = some (.string x.dst) := BF.out.cell 1
      have c2 : w4.cell? ⟨fb, 2, none⟩ = some (.string x.coin) := BF.out.cell 2
      have hl2 := below_nL w4 (.cells #[.string x.src, .string x.coin, .int .i64 0, .string x.dst, .string x.coin, .int .i64 0] 51)
      have HO2 := Lib.hid (own_below HO.out hl2)
      have HBB := Lib.hid (HB.out.trans (hl2.mono HB.out.size))
      have HSB : Hid (w.heap.size ≤ (w4.alloc (.cells #[.string x.src, .string x.coin, .int .i64 0, .string x.dst, .string x.coin, .int .i64 0] 51)).heap.size) := HBB.out.size
      clear hl2 HO HB
      go_wp2_with (at_builtin; refine ap_row infoA Try.underlying26 rfl (by decide) rfl (.tmp 15) (.tmp 26) rfl rfl HO2.out HSB.out ⟨w4.heap.size, 0, none⟩ 2 2 [.string x.src, .string x.coin, .int .i64 0, .string x.dst, .string x.coin, .int .i64 0] rfl rfl (lit_cells_at w4 #[.string x.src, .string x.coin, .int .i64 0, .string x.dst, .string x.coin, .int .i64 0] 51 _ rfl) (by simp [Value.oneCell']) (by unfold maxLen; omega) (by omega) ?_; intro v3 w5 o1 g1 hv1; have HO3 := Lib.hid o1; have HG3 := Lib.hid g1; clear o1 g1 hv1)
      have HB3 := Lib.hid (HBB.out.grown HG3.out HBB.out.size (fun b hb => (own_lt HO2.out hb).1))
      obtain ⟨a', c', rfl⟩ := own_slice HO3.out
      have hk2 : 2 * j + 2 = 2 * (j + 1) := by omega
      have HR9 : Hid (w5.ownsRow w.heap.size 51 3 (.slice a' (2 * (j + 1)) c') (2 * (j + 1)) (outR ((m.take (j + 1)).flatMap zM)) ∧ Below w.heap.size w w5) := by
        refine ⟨?_, HB3.out⟩
        rw [HX.out, outR_append, ← hk2]
        exact HO3.out
      rw [hk2]
      clear HO3 HO2 HBB HG3 HB3 HX HSB hk2
      go_wp2_with fail
      go_roundw
      case rel => exact ⟨j + 1, a', c', rfl, by go_num, by have := HKT.out; omega, HR9.out⟩
      case measure => simp [intOf]; have := HKT.out; omega
    · have hjt' : ¬ (j : Int) < (ml : Int) := by omega
      obtain rfl : j = ml := by omega
      rw [List.take_of_length_le (by rw [HML.out]; omega)] at HR
      obtain ⟨N, hN⟩ : ∃ N, N = 2 * j := ⟨_, rfl⟩
      have HN := Lib.hid hN
      have HAL : Hid ((m.flatMap zM).length = N) := by show _ = _; rw [zM_len, HML.out, hN]
      rw [← hN] at HR ⊢
      have HNB : Hid (N ≤ 2000) := by have := HMB.out; show _ ≤ _; omega
      have HQ := Lib.hid (sortA_any (m.flatMap zM) w.heap.size oa N oc w3 HR.out.1 HAL.out (by have := HNB.out; omega))
      clear hN hjt hj k1 hjt'
      go_wp2_with fail
      go_at_call 59
      (with_reducible refine HQ.out.mono ?_)
      rintro x w4 ⟨rfl, ⟨l, hp, hwk, ho⟩, hg⟩
      have HP := Lib.hid hp
      have HB4 := Lib.hid (HR.out.2.grown hg HR.out.2.size (fun b hb => (own_lt HR.out.1 hb).1))
      have HZ : Hid (Zs l) := fun a ha => zM_zero a (hp.mem_iff.1 ha)
      have HQ2 := Lib.hid (compact_any l w.heap.size oa N oc w4 ho (hp.length_eq.trans HAL.out) (by have := HNB.out; omega) hwk HZ.out)
      have HO4 := Lib.hid ho
      clear HQ hp hwk ho hg HR
      go_wp2_with fail
      go_at_call 60
      (with_reducible refine HQ2.out.mono ?_)
      rintro x w5 ⟨⟨r, ra, rc, rfl, ho, hcp, hrl⟩, hg⟩
      have HB5 := Lib.hid (HB4.out.grown hg HB4.out.size (fun b hb => (own_lt HO4.out hb).1))
      have HO5 := Lib.hid ho
      have HT := Lib.hid (tch_cp HP.out hcp)
      have HRL : Hid (r.length ≤ 2000 ∧ r.length ≤ N) := ⟨by have := HNB.out; omega, hrl⟩
      obtain ⟨M, hM⟩ : ∃ M, M = r.length := ⟨_, rfl⟩
      rw [← hM] at HO5 HRL ⊢
      have HMM := Lib.hid hM
      clear HQ2 ho hcp hrl hg HO4 HB4 HP HZ hM
      go_wp2_with fail
      go_loopw [6, 34] (fun v i wr => ∃ (k : Nat) (pa : Option Addr) (pc : Nat), v = .slice pa k pc ∧ i = .int .i64 (k : Nat) ∧ k ≤ M ∧ Hid (wr.ownsRow w5.heap.size 57 2 (.slice pa k pc) k (outP (r.take k)) ∧ Below w5.heap.size w5 wr)) (fun _ i _ => M - (intOf i).toNat)
      case atStart => exact ⟨0, none, 0, rfl, rfl, Nat.zero_le _, World.ownsRow_nil _ _ _ _, Below.refl _ _⟩
      case round =>
        rename World => w6
        obtain ⟨k, pa, pc, rfl, rfl, hk, HR⟩ := hrel
        have k1 : (k : Int) ≤ 2000 := by have := HRL.out.1; omega
        by_cases hkt : k < M
        · have hkt' : (k : Int) < (M : Int) := by omega
          have k0 : (0 : Int) ≤ (k : Int) := by omega
          obtain ⟨g, gc, x, hv, hx, u0, u1, u2, -⟩ := rowA_at (own_below HO5.out HR.out.2) HMM.out.symm k hkt
          injection hv with e1 _ e3
          have HA := Lib.hid e1
          subst e1
          clear e3
          have HTK := Lib.hid (take_snocA hx)
          have HKT := Lib.hid hkt
          have hal := below_nL w6 (.cells #[.string x.party, .string x.coin, .int .i64 x.amt] 51)
          have BF := Lib.hid (Mem.Blk.new w6 51 #[.string x.party, .string x.coin, .int .i64 x.amt])
          have HO := Lib.hid (own_below HR.out.1 hal)
          have HB := Lib.hid (HR.out.2.trans (hal.mono HR.out.2.size))
          clear hx hkt hal HR
          go_upto_region 12 with (fail)
          generalize w6.alloc (.cells #[.string x.party, .string x.coin, .int .i64 x.amt] 51) = w7 at *
          generalize w6.heap.size = fb at *
          clear u0 u1 u2
          have c0 : w7.cell? ⟨fb, 0, none⟩ = some (.string x.party) := BF.out.cell 0
          have c1 : w7.cell? ⟨fb, 1, none⟩ = some (.string x.coin) := BF.out.cell 1
          have hl2 := below_nL w7 (.cells #[.string x.party, .string x.coin] 57)
          have HO2 := Lib.hid (own_below HO.out hl2)
          have HBB := Lib.hid (HB.out.trans (hl2.mono HB.out.size))
          have HSB : Hid (w5.heap.size ≤ (w7.alloc (.cells #[.string x.party, .string x.coin] 57)).heap.size) := HBB.out.size
          clear hl2 HO HB
          go_wp2_with (at_builtin; refine ap_row infoP Try.underlying54 rfl (by decide) rfl (.tmp 38) (.tmp 44) rfl rfl HO2.out HSB.out ⟨w7.heap.size, 0, none⟩ 1 1 [.string x.party, .string x.coin] rfl rfl (lit_cells_at w7 #[.string x.party, .string x.coin] 57 _ rfl) (by simp [Value.oneCell']) (by unfold maxLen; omega) (by omega) ?_; intro v3 w8 o1 g1 hv1; have HO3 := Lib.hid o1; have HG3 := Lib.hid g1; clear o1 g1 hv1)
          have HB3 := Lib.hid (HBB.out.grown HG3.out HBB.out.size (fun b hb => (own_lt HO2.out hb).1))
          obtain ⟨a', c', rfl⟩ := own_slice HO3.out
          have HR9 : Hid (w8.ownsRow w5.heap.size 57 2 (.slice a' (k + 1) c') (k + 1) (outP (r.take (k + 1))) ∧ Below w5.heap.size w5 w8) := by
            refine ⟨?_, HB3.out⟩
            rw [HTK.out, outP_append, outP_one]
            exact HO3.out
          clear HO3 HO2 HBB HG3 HB3 HTK HSB
          go_wp2_with fail
          go_roundw
          case rel => exact ⟨k + 1, a', c', rfl, by go_num, by have := HKT.out; omega, HR9.out⟩
          case measure => simp [intOf]; have := HKT.out; omega
        · have hkt' : ¬ (k : Int) < (M : Int) := by omega
          obtain rfl : k = M := by omega
          rw [List.take_of_length_le (by rw [HMM.out]; omega)] at HR
          have HF : Hid (∃ a c, Value.slice pa k pc = .slice a k c ∧ SlR ktK w6 [] r a k c) := by
            have h := HR.out.1
            have e := HMM.out
            subst e
            exact outP_any h HR.out.2
          have HBZ := Lib.hid (HB5.out.trans (HR.out.2.mono HB5.out.size))
          clear HR hkt hk
          go_wp2_with fail
          go_ret
          obtain ⟨a', c', e, hs⟩ := HF.out
          refine ⟨⟨r, a', c', by rw [e, ← HMM.out]; rfl, by rw [← HMM.out]; exact hs, HT.out, ?_⟩, HBZ.out⟩
          have h1 := HRL.out.2
          have h2 := HN.out
          have h3 := HMM.out
          omega
set_option maxRecDepth 100000 in
set_option maxHeartbeats 8000000 in
theorem rtouched_any (m : List Mv) (ma : Option Addr) (ml mc : Nat) (w : World) (hm : SlR mvK w [] m ma ml mc) (hml : ml ≤ 1000) :
    Calls Try.prog 28 #[.slice ma ml mc] w fun x w' => (∃ (r : List Acct) (a : Option Addr) (c : Nat), x = .returned (.slice a r.length c) ∧ SlR acctK w' [] r a r.length c ∧ Tch m r) ∧ Below w.heap.size w w' := by
  have HQ := Lib.hid (keys_any [] m none 0 0 ma ml mc w (SlR.nil _ _ _) hm (by omega) hml)
  clear hm hml
  go_enter Try.func28, Try.ntmps28
  go_wp2_with fail
  go_at_call 39
  (with_reducible refine HQ.out.mono ?_)
  rintro y w2 ⟨⟨out, a, c, rfl, hs, hk⟩, hb⟩
  have HS := Lib.hid hs
  have HK := Lib.hid hk
  have HB := Lib.hid hb
  clear HQ hs hk hb
  go_wp2_with fail
  go_ret
  exact ⟨⟨out, a, c, rfl, HS.out, tch_keys HK.out⟩, HB.out⟩
end Go.Proofs.Ytgbiimoednmlgaa
