/- A part of the proof: Keys, Ndx, NdP, NdQ, Rsee, Sames, one behind another. -/
import Derived.Test.YtppnmeobnilojaaMNA
import Derived.Test.YtppnmeobnilojaaMNB
import Derived.Test.YtppnmeobnilojaaMNC
import Derived.Test.YtppnmeobnilojaaMND
import Derived.Test.YtppnmeobnilojaaMNE
import Derived.Test.YtppnmeobnilojaaMNF
import Derived.Test.YtppnmeobnilojaaMNG
import Derived.Test.YtppnmeobnilojaaMNH
import Derived.Test.YtppnmeobnilojaaMNI
import Derived.Test.YtppnmeobnilojaaMNJ
import Derived.Test.YtppnmeobnilojaaMNK
import Derived.Test.YtppnmeobnilojaaMNL
import Derived.Test.YtppnmeobnilojaaMNM
import Derived.Test.YtppnmeobnilojaaMNN
import Derived.Shelf.SlIter.Nil
import Derived.Shelf.SortM.Plain
import Derived.Shelf.SortM.SortNone
import Derived.Test.YtppnmeobnilojaaProg
import Derived.WalkKit
import Derived.Carry
import Derived.Sort.KeysCollected
import Derived.Deep.QuietTactic
import Derived.BigQuiet
/- slices.Sorted(maps.Keys(m)) at any map of strings: a new slice of its keys, in order. -/
namespace Go.Proofs.Ytppnmeobnilojaa
set_option linter.unusedVariables false
set_option linter.unusedSimpArgs false
open Go Go.RowKit Go.Maps Go.Sort Go.Shelf
def keys72_ren : Shelf.Ren := { f := fun x => match x with | 7 => 72 | 10 => 104 | n => n, t := fun x => match x with | 23 => 107 | 26 => 9 | 3 => 4 | 28 => 111 | 0 => 0 | 27 => 110 | 33 => 116 | 4 => 4 | n => n, g := fun x => x }
theorem keys72 : SlLaysZ.n7 Try.prog keys72_ren :=
  { mixed := by kernel_rfl,
    f7 := ⟨"maps.Keys[map[string]bool,string,bool]", by decide, (Try.func72).trans (congrArg some (by kernel_rfl))⟩,
    f10 := ⟨"maps.Keys[map[string]bool,string,bool]$1", by decide, (Try.func104).trans (congrArg some (by kernel_rfl))⟩,
    t0 := Try.underlying0,
    a0 := Try.isAgg0,
    z0 := Try.sizeOf0,
    v0 := Try.zeroValue0,
    t4 := Try.underlying4,
    a4 := Try.isAgg4,
    z4 := Try.sizeOf4,
    v4 := Try.zeroValue4,
    t23 := Try.underlying107,
    a23 := Try.isAgg107,
    z23 := Try.sizeOf107,
    v23 := Try.zeroValue107,
    t26 := Try.underlying9,
    a26 := Try.isAgg9,
    z26 := Try.sizeOf9,
    v26 := Try.zeroValue9,
    t27 := Try.underlying110,
    a27 := Try.isAgg110,
    z27 := Try.sizeOf110,
    v27 := Try.zeroValue110,
    t28 := Try.underlying111,
    a28 := Try.isAgg111,
    z28 := Try.sizeOf111,
    v28 := Try.zeroValue111,
    t33 := Try.underlying116,
    a33 := Try.isAgg116,
    z33 := Try.sizeOf116,
    v33 := Try.zeroValue116 }
def sorted71_ren : Shelf.Ren := { f := fun x => match x with | 6 => 71 | 8 => 102 | 9 => 103 | 11 => 122 | 13 => 124 | 12 => 123 | 23 => 143 | 24 => 144 | 14 => 134 | 15 => 135 | 16 => 136 | 17 => 137 | 18 => 138 | 19 => 139 | 20 => 140 | 21 => 141 | 22 => 142 | 25 => 150 | 26 => 151 | 27 => 152 | 28 => 153 | 29 => 154 | 30 => 155 | 31 => 157 | n => n, t := fun x => match x with | 26 => 9 | 28 => 111 | 24 => 77 | 0 => 0 | 3 => 3 | 37 => 113 | 48 => 170 | 50 => 141 | 4 => 4 | 40 => 163 | 39 => 162 | 45 => 43 | 5 => 5 | 9 => 9 | 51 => 177 | 55 => 181 | 57 => 185 | 58 => 53 | 33 => 116 | n => n, g := fun x => x }
theorem sorted71 : SlLaysZ.n6 Try.prog sorted71_ren :=
  { mixed := by kernel_rfl,
    f6 := ⟨"slices.Sorted[string]", by decide, (Try.func71).trans (congrArg some (by kernel_rfl))⟩,
    f8 := ⟨"slices.Collect[string]", by decide, (Try.func102).trans (congrArg some (by kernel_rfl))⟩,
    f11 := ⟨"slices.AppendSeq[[]string,string]", by decide, (Try.func122).trans (congrArg some (by kernel_rfl))⟩,
    t0 := Try.underlying0,
    a0 := Try.isAgg0,
    z0 := Try.sizeOf0,
    v0 := Try.zeroValue0,
    t24 := Try.underlying77,
    a24 := Try.isAgg77,
    z24 := Try.sizeOf77,
    v24 := Try.zeroValue77,
    t26 := Try.underlying9,
    a26 := Try.isAgg9,
    z26 := Try.sizeOf9,
    v26 := Try.zeroValue9,
    t28 := Try.underlying111,
    a28 := Try.isAgg111,
    z28 := Try.sizeOf111,
    v28 := Try.zeroValue111,
    i26 := by kernel_rfl }
def sort103_ren : Shelf.Ren := { f := fun x => match x with | 6 => 103 | 8 => 124 | 9 => 123 | 19 => 143 | 20 => 144 | 21 => 134 | 22 => 135 | 23 => 136 | 24 => 137 | 25 => 138 | 26 => 139 | 27 => 140 | 28 => 141 | 29 => 142 | 36 => 150 | 31 => 151 | 32 => 152 | 37 => 153 | 38 => 154 | 39 => 155 | 41 => 157 | n => n, t := fun x => match x with | 27 => 77 | 29 => 9 | 3 => 3 | 32 => 113 | 26 => 77 | 0 => 0 | 44 => 170 | 46 => 141 | 4 => 4 | 36 => 163 | 35 => 162 | 41 => 43 | 5 => 5 | 9 => 9 | 53 => 177 | 57 => 181 | 63 => 185 | 64 => 53 | n => n, g := fun x => x }
theorem sort103 : SlLaysM.n6 Try.prog sort103_ren :=
  { mixed := by kernel_rfl,
    f6 := ⟨"slices.Sort[[]string,string]", by decide, (Try.func103).trans (congrArg some (by kernel_rfl))⟩,
    f8 := (Try.func124).trans (congrArg some (by kernel_rfl)),
    f9 := ⟨"slices.pdqsortOrdered[string]", by decide, (Try.func123).trans (congrArg some (by kernel_rfl))⟩,
    f19 := (Try.func143).trans (congrArg some (by kernel_rfl)),
    f20 := (Try.func144).trans (congrArg some (by kernel_rfl)),
    f21 := ⟨"slices.insertionSortOrdered[string]", by decide, (Try.func134).trans (congrArg some (by kernel_rfl))⟩,
    f22 := ⟨"slices.heapSortOrdered[string]", by decide, (Try.func135).trans (congrArg some (by kernel_rfl))⟩,
    f23 := ⟨"slices.breakPatternsOrdered[string]", by decide, (Try.func136).trans (congrArg some (by kernel_rfl))⟩,
    f24 := ⟨"slices.choosePivotOrdered[string]", by decide, (Try.func137).trans (congrArg some (by kernel_rfl))⟩,
    f25 := ⟨"slices.reverseRangeOrdered[string]", by decide, (Try.func138).trans (congrArg some (by kernel_rfl))⟩,
    f26 := ⟨"slices.partialInsertionSortOrdered[string]", by decide, (Try.func139).trans (congrArg some (by kernel_rfl))⟩,
    f27 := ⟨"cmp.Less[string]", by decide, (Try.func140).trans (congrArg some (by kernel_rfl))⟩,
    f28 := ⟨"slices.partitionEqualOrdered[string]", by decide, (Try.func141).trans (congrArg some (by kernel_rfl))⟩,
    f29 := ⟨"slices.partitionOrdered[string]", by decide, (Try.func142).trans (congrArg some (by kernel_rfl))⟩,
    f31 := (Try.func151).trans (congrArg some (by kernel_rfl)),
    f32 := (Try.func152).trans (congrArg some (by kernel_rfl)),
    f36 := ⟨"slices.siftDownOrdered[string]", by decide, (Try.func150).trans (congrArg some (by kernel_rfl))⟩,
    f37 := ⟨"slices.medianAdjacentOrdered[string]", by decide, (Try.func153).trans (congrArg some (by kernel_rfl))⟩,
    f38 := ⟨"slices.medianOrdered[string]", by decide, (Try.func154).trans (congrArg some (by kernel_rfl))⟩,
    f39 := ⟨"cmp.isNaN[string]", by decide, (Try.func155).trans (congrArg some (by kernel_rfl))⟩,
    f41 := ⟨"slices.order2Ordered[string]", by decide, (Try.func157).trans (congrArg some (by kernel_rfl))⟩,
    t0 := Try.underlying0,
    a0 := Try.isAgg0,
    z0 := Try.sizeOf0,
    v0 := Try.zeroValue0,
    t3 := Try.underlying3,
    a3 := Try.isAgg3,
    z3 := Try.sizeOf3,
    v3 := Try.zeroValue3,
    t4 := Try.underlying4,
    a4 := Try.isAgg4,
    z4 := Try.sizeOf4,
    v4 := Try.zeroValue4,
    t5 := Try.underlying5,
    a5 := Try.isAgg5,
    z5 := Try.sizeOf5,
    v5 := Try.zeroValue5,
    t9 := Try.underlying9,
    a9 := Try.isAgg9,
    z9 := Try.sizeOf9,
    v9 := Try.zeroValue9,
    t26 := Try.underlying77,
    a26 := Try.isAgg77,
    z26 := Try.sizeOf77,
    v26 := Try.zeroValue77,
    t27 := Try.underlying77,
    a27 := Try.isAgg77,
    z27 := Try.sizeOf77,
    v27 := Try.zeroValue77,
    t29 := Try.underlying9,
    a29 := Try.isAgg9,
    z29 := Try.sizeOf9,
    v29 := Try.zeroValue9,
    t32 := Try.underlying113,
    a32 := Try.isAgg113,
    z32 := Try.sizeOf113,
    v32 := Try.zeroValue113,
    t35 := Try.underlying162,
    a35 := Try.isAgg162,
    z35 := Try.sizeOf162,
    v35 := Try.zeroValue162,
    t36 := Try.underlying163,
    a36 := Try.isAgg163,
    z36 := Try.sizeOf163,
    v36 := Try.zeroValue163,
    t41 := Try.underlying43,
    a41 := Try.isAgg43,
    z41 := Try.sizeOf43,
    v41 := Try.zeroValue43,
    t44 := Try.underlying170,
    a44 := Try.isAgg170,
    z44 := Try.sizeOf170,
    v44 := Try.zeroValue170,
    t46 := Try.underlying141,
    a46 := Try.isAgg141,
    z46 := Try.sizeOf141,
    v46 := Try.zeroValue141,
    t53 := Try.underlying177,
    a53 := Try.isAgg177,
    z53 := Try.sizeOf177,
    v53 := Try.zeroValue177,
    t57 := Try.underlying181,
    a57 := Try.isAgg181,
    z57 := Try.sizeOf181,
    v57 := Try.zeroValue181,
    t63 := Try.underlying185,
    a63 := Try.isAgg185,
    z63 := Try.sizeOf185,
    v63 := Try.zeroValue185,
    t64 := Try.underlying53,
    a64 := Try.isAgg53,
    z64 := Try.sizeOf53,
    v64 := Try.zeroValue53 }
/-- maps.Keys at whatever map. -/
theorem mapKeys_bool (mb : Option Nat) (W : World) : Calls Try.prog 72 #[.map mb] W fun e w' => e = .returned (.func (.func 104) #[] #[.pointer (some ⟨W.heap.size, 0, none⟩)]) ∧ w' = W.alloc (.cells #[.map mb] 107) :=
  callsIn_wide.1 (AnyZ.keys_in keys72 Fence.wide 5 trivial rfl mb W)
theorem sorts_71 (m : Nat) : AnyZ.SortsIn Try.prog sorted71_ren Fence.wide m :=
  ⟨fun blk off cap ss W hH hblk hsz => callsIn_wide.2 (AnyM.slices_Sort_string sort103 blk off cap ss W hH hblk hsz),
   fun p cap W => callsIn_wide.2 (AnyM.slices_Sort_string_none sort103 p cap W)⟩
/-- slices.Sorted at the keys of a map that isn't nil. -/
theorem sortedKeys_bool {H : Type} (p b nn : Nat) (D0 : DataW H) (R : Value → Option (DataW H × List MemPlace)) (w : World) (hp : p < w.heap.size) (hc : w.cell? ⟨p, 0, none⟩ = some (.map (some b))) (hown : w.ownsMap Try.prog 9 R b nn D0) (hmax : Maps.size D0 ≤ maxLen) (hbytes : Maps.size D0 * 16 ≤ 140737488355328) :
    Calls Try.prog 71 #[.func (.func 104) #[] #[.pointer (some ⟨p, 0, none⟩)]] w fun e w' => ∃ (v : Value) (ss : List (List UInt8)), e = .returned v ∧ ss.Perm (strKeys D0) ∧
      w'.ownsRow w.heap.size 9 1 v ss.length ((ss.mergeSort (fun x y => decide (x ≤ y))).map encStr) ∧ (v = .slice none 0 0 ↔ ss = []) ∧ Below w.heap.size w w' :=
  callsIn_wide.1 (AnyZ.sorted_in sorted71 Fence.wide 5 trivial trivial trivial trivial rfl (by omega) (sorts_71 _) (enters_of Try.func103 (by kernel_rfl) rfl) 104 #[.pointer (some ⟨p, 0, none⟩)] trivial (enters_of Try.func104 (by kernel_rfl) rfl) _ _ hmax hbytes _
    (AnyZ.keys_gives (ρ := keys72_ren) { keys72 with } Fence.wide _ trivial rfl (by omega) p b nn D0 _ hp hc hown))
end Go.Proofs.Ytppnmeobnilojaa

/- The contract of obs.Needs. -/
namespace Go.Proofs.Ytppnmeobnilojaa
set_option linter.unusedVariables false
set_option linter.unusedSimpArgs false
open Go.RowKit
theorem strKeys_len {H : Type} (D : DataW H) : (Go.strKeys D).length = Maps.size D := by
  cases D <;> simp [Go.strKeys, Maps.size]
noncomputable def needsL (day : Int) (fx : List Fx) (e : Ex) : List (List UInt8) := (Go.strKeys (setD (unsE day fx e))).mergeSort (fun x y => decide (x ≤ y))
set_option maxRecDepth 100000 in
set_option maxHeartbeats 2000000 in
theorem needsX_any (day : Int) (fx : List Fx) (fa : Option Addr) (fl fc : Nat) (e : Ex) (cs : List Value) (w : World) (hR : RepE w [] e cs) (hk : e.rk ≤ 1000) (hF : SlR fxK w [] fx fa fl fc) :
    Calls Try.prog 45 #[.agg cs.toArray, .agg #[.int .i64 day, .slice fa fl fc]] w fun x w' => (∃ a c L, x = .returned (.slice a L.length c) ∧ SlR strK w' [] L a L.length c ∧ (rE e = false → L = []) ∧ (rE e = true → L.Perm (Go.strKeys (setD (unsE day fx e))) ∧ L.Pairwise (fun x y => x ≤ y))) ∧ Below w.heap.size w w' := by
  have HRT := Lib.hid (show RepE w [] e cs from hR)
  have HFX := Lib.hid hF
  have HKK := Lib.hid hk
  obtain ⟨op, no, nm, args, a, len, cap, -, rfl, -, -, -, -⟩ := hR.inv
  have B0 := Mem.Blk.new w 46 #[.int .i64 op, .int .i64 no, .string nm, .slice a len cap]
  have B1 := Mem.Blk.new (w.alloc (.cells #[.int .i64 op, .int .i64 no, .string nm, .slice a len cap] 46)) 63 #[.int .i64 day, .slice fa fl fc]
  have e1 : (w.alloc (.cells #[.int .i64 op, .int .i64 no, .string nm, .slice a len cap] 46)).heap.size = w.heap.size + 1 := by simp
  rw [e1] at B1
  have HB := Lib.hid (((Below.refl w.heap.size w).alloc (Nat.le_refl _) (.cells #[.int .i64 op, .int .i64 no, .string nm, .slice a len cap] 46)).alloc (by rw [e1]; omega) (.cells #[.int .i64 day, .slice fa fl fc] 63))
  have BX := Lib.hid (B0.alloc (.cells #[.int .i64 day, .slice fa fl fc] 63))
  have BE := Lib.hid B1
  have hmm := @run_makeMap Try.prog
  have HRE := Lib.hid (@rE_blt e)
  clear hR hF hk B0 B1 e1
  obtain ⟨re, hre⟩ : ∃ re, re = rE e := ⟨_, rfl⟩
  have HRE' := Lib.hid hre
  go_enter Try.func45, Try.ntmps45
  go_upto_region 1 with (fail)
  generalize (w.alloc (.cells #[.int .i64 op, .int .i64 no, .string nm, .slice a len cap] 46)).alloc (.cells #[.int .i64 day, .slice fa fl fc] 63) = v at *
  obtain ⟨x0, x1, x2, x3, -, -, -, -⟩ := blk4 BX.out
  go_wp2_with fail
  go_at_call 33
  (with_reducible refine (rightExpr_any e _ _ (HRT.out.kept (Kept.of_below HB.out [])) HKK.out).mono ?_)
  rintro y w1 ⟨rfl, b1⟩
  rw [← hre]
  clear hre
  have HB1 := Lib.hid (HB.out.trans (b1.mono HB.out.size))
  have BX1 := Lib.hid (BX.out.below b1)
  have BE1 := Lib.hid (BE.out.below b1)
  clear b1 HB BX BE x0 x1 x2 x3
  cases re with
  | false =>
    go_wp2_with fail
    go_ret
    exact ⟨⟨none, 0, [], rfl, SlR.nil _ _ _, fun _ => rfl, fun h => by rw [← HRE'.out] at h; cases h⟩, HB1.out⟩
  | true =>
    go_upto_region 4 with (fail)
    have hnd : e.nd ≤ 200 := by
      have h : rE e = (decide (e.nd ≤ 200 ∧ e.rk ≤ 16) && bE e) := rfl
      have h2 := HRE'.out.symm
      rw [h, Bool.and_eq_true, decide_eq_true_eq] at h2
      exact h2.1.1
    have HM0 : Hid (OneM (w1.alloc (.map #[] 0)) w1.heap.size [] 0) := World.ownsMap_made w1 Try.prog 9 (plainElem (H := Unit) Try.prog 4)
    have hbn := (Below.refl w1.heap.size w1).alloc (Nat.le_refl _) (.map #[] 0)
    have HB2 := Lib.hid (HB1.out.trans (hbn.mono HB1.out.size))
    have BX2 := Lib.hid (BX1.out.below hbn)
    have BE2 := Lib.hid (BE1.out.below hbn)
    have hs1 : w.heap.size + 1 < w1.heap.size := BE1.out.lt
    have HR2 := Lib.hid ((HRT.out.less (X' := [w1.heap.size]) (fun b hb hm => by rw [List.mem_singleton] at hm; omega)).kept (Kept.of_below HB2.out _))
    have HF2 := Lib.hid ((HFX.out.less (X' := [w1.heap.size]) (fun b hb hm => by rw [List.mem_singleton] at hm; omega)).kept (Kept.of_below HB2.out _))
    have HGE : Hid (∀ b ∈ [w1.heap.size], w.heap.size ≤ b) := by
      intro b hb
      rw [List.mem_singleton] at hb; omega
    have HN := Lib.hid hnd
    clear hbn hs1 hnd BX1 BE1 HB1 hmm
    generalize w1.alloc (.map #[] 0) = w2 at *
    generalize w1.heap.size = m at *
    obtain ⟨x0, x1, x2, x3, -, -, -, -⟩ := blk4 BX2.out
    obtain ⟨e0, e1, -, -⟩ := BE2.out.two
    go_wp2_with fail
    go_at_call 70
    (with_reducible refine (needs_any day fx fa fl fc e.rk e (Nat.le_refl _) _ w2 m [] 0 HR2.out HF2.out HM0.out (by have := HN.out; omega)).mono ?_)
    rintro y w3 ⟨rfl, f3, t3⟩
    rw [List.nil_append] at t3
    have HB3 := Lib.hid (HB2.out.trans (f3.below HB2.out.size HGE.out))
    have HT3 := Lib.hid t3
    have HSZ : Hid (Maps.size (setD (unsE day fx e)) ≤ 1000) := by
      have h1 := World.ownsMap.size_le t3
      have := HN.out
      show _ ≤ _
      omega
    clear f3 t3 x0 x1 x2 x3 e0 e1 HB2 BX2 BE2 HR2 HF2 HM0 HGE
    go_wp2_with fail
    go_at_call 72
    (with_reducible refine (mapKeys_bool _ _).mono ?_)
    rintro y w4 ⟨rfl, rfl⟩
    have hb := (Below.refl w3.heap.size w3).alloc (Nat.le_refl _) (.cells #[.map (some m)] 107)
    have HB4 := Lib.hid (HB3.out.trans (hb.mono HB3.out.size))
    have HT4 := Lib.hid (HT3.out.alloc (.cells #[.map (some m)] 107))
    have BZ := Lib.hid (Mem.Blk.new w3 107 #[.map (some m)])
    clear hb HB3 HT3
    go_wp2_with fail
    generalize w3.alloc (.cells #[.map (some m)] 107) = w4 at *
    generalize w3.heap.size = p at *
    have hcz : w4.cell? ⟨p, 0, none⟩ = some (Value.map (some m)) := BZ.out.cell 0
    go_at_call 71
    (with_reducible refine (sortedKeys_bool p m (0 + e.nd) (setD (unsE day fx e)) (plainElem Try.prog 4) w4 BZ.out.lt hcz (by have h := HT4.out; unfold OneM at h; exact h) (by have := HSZ.out; unfold maxLen; omega) (by have := HSZ.out; omega)).mono ?_)
    rintro y w5 ⟨v', ss, rfl, hpm, hrow, -, hb⟩
    have HB5 := Lib.hid (HB4.out.trans (hb.mono HB4.out.size))
    have hfl : ∀ l : List (List UInt8), (l.map (fun s => [encStr s])).flatten = l.map encStr := fun l => by induction l with | nil => rfl | cons x t ih => simp [ih]
    have hml : (ss.mergeSort (fun x y => decide (x ≤ y))).length = ss.length := List.length_mergeSort _
    rw [← hfl] at hrow
    obtain ⟨a', c', rfl, hsl, -⟩ := own_sl (w0 := w4) (X := []) ⟨hb, hrow⟩ (by rw [List.length_map, hml]) (fun c hc => by obtain ⟨s, _, rfl⟩ := List.mem_map.1 hc; rfl) (fun b hb => by cases hb)
    have HFIN : Hid (∃ a c L, Ending.returned (.slice a' ss.length c') = .returned (.slice a L.length c) ∧ SlR strK w5 [] L a L.length c ∧ (rE e = false → L = []) ∧ (rE e = true → L.Perm (Go.strKeys (setD (unsE day fx e))) ∧ L.Pairwise (fun x y => x ≤ y))) := by
      refine ⟨a', c', ss.mergeSort (fun x y => decide (x ≤ y)), by rw [hml], ⟨(ss.mergeSort (fun x y => decide (x ≤ y))).map (fun s => [encStr s]), by rw [List.length_map], fun i x cs hx hc => ?_, by rw [hml]; exact hsl⟩, fun h => (by rw [← HRE'.out] at h; cases h), fun _ => ⟨(List.mergeSort_perm _ _).trans hpm, ?_⟩⟩
      · rw [List.getElem?_map, hx] at hc
        injection hc with hc; exact hc.symm
      · have h := List.pairwise_mergeSort (le := fun x y : List UInt8 => decide (x ≤ y)) (fun a b c h1 h2 => by simp only [decide_eq_true_eq] at *; exact List.le_trans h1 h2) (fun a b => by simp only [Bool.or_eq_true, decide_eq_true_eq]; exact List.le_total a b) ss
        exact h.imp (fun h => of_decide_eq_true h)
    clear hsl hrow hpm hml hfl hb
    go_wp2_with fail
    go_ret
    exact ⟨HFIN.out, HB5.out⟩
end Go.Proofs.Ytppnmeobnilojaa

/- A name put into a rising list at its place: plain. -/
namespace Go.Proofs.Ytppnmeobnilojaa
set_option linter.unusedVariables false
set_option linter.unusedSimpArgs false
open Go.RowKit
abbrev Tx := List UInt8
def ltB (x y : Tx) : Bool := decide (x < y)
def posL (s : Tx) (l : List Tx) : Nat := (l.takeWhile (fun x => ltB x s)).length
def insL (s : Tx) (l : List Tx) : List Tx := if l[posL s l]? = some s then l else l.take (posL s l) ++ s :: l.drop (posL s l)
theorem insL_mem {s x : Tx} {l : List Tx} : x ∈ insL s l ↔ x = s ∨ x ∈ l := by
  unfold insL
  split
  · rename_i h
    constructor
    · exact .inr
    · rintro (rfl | h2)
      · exact List.mem_of_getElem? h
      · exact h2
  · have := List.take_append_drop (posL s l) l
    constructor
    · intro h
      rcases List.mem_append.1 h with h | h
      · exact .inr (List.mem_of_mem_take h)
      · rcases List.mem_cons.1 h with rfl | h
        · exact .inl rfl
        · exact .inr (List.mem_of_mem_drop h)
    · rintro (rfl | h)
      · simp
      · rw [← this] at h
        rcases List.mem_append.1 h with h | h
        · exact List.mem_append.2 (.inl h)
        · exact List.mem_append.2 (.inr (List.mem_cons_of_mem _ h))
theorem insL_cons (s x : Tx) (t : List Tx) : insL s (x :: t) = if ltB x s = true then x :: insL s t else if x = s then x :: t else s :: x :: t := by
  by_cases h : ltB x s = true
  · rw [if_pos h]
    have hp : posL s (x :: t) = posL s t + 1 := by unfold posL; rw [List.takeWhile_cons, if_pos h, List.length_cons]
    unfold insL
    rw [hp, List.getElem?_cons_succ, List.take_succ_cons, List.drop_succ_cons]
    split <;> rfl
  · rw [if_neg h]
    have hp : posL s (x :: t) = 0 := by unfold posL; rw [List.takeWhile_cons, if_neg h]; rfl
    unfold insL
    rw [hp]
    simp
theorem insL_rising {s : Tx} {l : List Tx} (h : l.Pairwise (fun x y => x < y)) : (insL s l).Pairwise (fun x y => x < y) := by
  induction l with
  | nil => simp [insL, posL]
  | cons x t ih =>
    rw [List.pairwise_cons] at h
    rw [insL_cons]
    by_cases hx : ltB x s = true
    · rw [if_pos hx, List.pairwise_cons]
      refine ⟨fun y hy => ?_, ih h.2⟩
      rcases insL_mem.1 hy with rfl | hy
      · exact of_decide_eq_true hx
      · exact h.1 y hy
    · rw [if_neg hx]
      by_cases he : x = s
      · rw [if_pos he, List.pairwise_cons]; exact h
      · rw [if_neg he, List.pairwise_cons, List.pairwise_cons]
        have hlt : s < x := by
          have hx' : ¬ x < s := fun hh => hx (decide_eq_true hh)
          by_cases h1 : s < x
          · exact h1
          · exact absurd (List.le_antisymm (List.not_lt.1 h1) (List.not_lt.1 hx')) he
        refine ⟨fun y hy => ?_, h⟩
        rcases List.mem_cons.1 hy with rfl | hy
        · exact hlt
        · exact List.lt_trans hlt (h.1 y hy)
/-- Names put in one behind another. -/
def putL (l : List Tx) (ns : List ByteArray) : List Tx := ns.foldl (fun acc s => insL s.data.toList acc) l
theorem putL_mem {x : Tx} : ∀ (ns : List ByteArray) (l : List Tx), x ∈ putL l ns ↔ x ∈ l ∨ ∃ s ∈ ns, s.data.toList = x
  | [], l => by simp [putL]
  | n :: t, l => by
    have : putL l (n :: t) = putL (insL n.data.toList l) t := rfl
    rw [this, putL_mem t, insL_mem]
    simp only [List.mem_cons, exists_eq_or_imp]
    constructor
    · rintro ((h | h) | h)
      · exact .inr (.inl h.symm)
      · exact .inl h
      · exact .inr (.inr h)
    · rintro (h | h | h)
      · exact .inl (.inr h)
      · exact .inl (.inl h.symm)
      · exact .inr h
theorem putL_rising : ∀ (ns : List ByteArray) (l : List Tx), l.Pairwise (fun x y => x < y) → (putL l ns).Pairwise (fun x y => x < y)
  | [], _, h => h
  | n :: t, l, h => putL_rising t _ (insL_rising h)
theorem putL_append (l : List Tx) (a b : List ByteArray) : putL l (a ++ b) = putL (putL l a) b := List.foldl_append ..
/-- Rising lists of the same texts are one. -/
theorem rising_eq : ∀ (l l' : List Tx), l.Pairwise (fun x y => x < y) → l'.Pairwise (fun x y => x < y) → (∀ x, x ∈ l ↔ x ∈ l') → l = l'
  | [], [], _, _, _ => rfl
  | [], y :: t, _, _, h => absurd ((h y).2 (List.mem_cons_self ..)) List.not_mem_nil
  | x :: t, [], _, _, h => absurd ((h x).1 (List.mem_cons_self ..)) List.not_mem_nil
  | x :: t, y :: u, h1, h2, h => by
    rw [List.pairwise_cons] at h1 h2
    have hxy : x = y := by
      rcases List.mem_cons.1 ((h x).1 (List.mem_cons_self ..)) with e | e
      · exact e
      · rcases List.mem_cons.1 ((h y).2 (List.mem_cons_self ..)) with e' | e'
        · exact e'.symm
        · exact absurd (List.lt_trans (h1.1 y e') (h2.1 x e)) (List.lt_irrefl x)
    subst hxy
    rw [rising_eq t u h1.2 h2.2 (fun z => ?_)]
    constructor
    · intro hz
      rcases List.mem_cons.1 ((h z).1 (List.mem_cons_of_mem _ hz)) with rfl | e
      · exact absurd (h1.1 _ hz) (List.lt_irrefl _)
      · exact e
    · intro hz
      rcases List.mem_cons.1 ((h z).2 (List.mem_cons_of_mem _ hz)) with rfl | e
      · exact absurd (h2.1 _ hz) (List.lt_irrefl _)
      · exact e
end Go.Proofs.Ytppnmeobnilojaa

/- What is sorted of a set's keys is the rising list of its names: plain. -/
namespace Go.Proofs.Ytppnmeobnilojaa
set_option linter.unusedVariables false
set_option linter.unusedSimpArgs false
open Go.RowKit
theorem fold_keys (u : DataW Unit) (P : Lit → Prop) : ∀ (acc : List Lit) (es : List (Lit × DataW Unit)), (∀ p ∈ es, P p.1) → (∀ x ∈ acc, P x) → ∃ es', acc.foldl (fun m x => DataW.put m x u) (.map es) = .map es' ∧ ∀ p ∈ es', P p.1
  | [], es, h, _ => ⟨es, rfl, h⟩
  | x :: t, es, h, ha => by
    have e1 : DataW.put (.map es) x u = .map (DataW.insert (x, u) (es.filter fun p => !p.1.sameKey x)) := rfl
    rw [List.foldl_cons, e1]
    refine fold_keys u P t _ (fun p hp => ?_) (fun y hy => ha y (List.mem_cons_of_mem _ hy))
    rcases List.mem_cons.1 ((Go.WideShapes.insert_perm (x, u) _).mem_iff.1 hp) with rfl | hp
    · exact ha _ (List.mem_cons_self ..)
    · exact h p (List.mem_filter.1 hp).1
theorem strOf_nmL (s : ByteArray) : Go.strOf (nmL s) = s.data.toList := rfl
theorem keys_setD (l : List ByteArray) : (Go.strKeys (setD l)).Nodup ∧ ∀ x, x ∈ Go.strKeys (setD l) ↔ ∃ s ∈ l, s.data.toList = x := by
  obtain ⟨es, he, hp⟩ := Maps.tidy_setOf (.lit (.bool true) : DataW Unit) (l.map nmL) (keys_nmL l)
  have hh := fun k => Maps.has_setOf (.lit (.bool true) : DataW Unit) k (l.map nmL) (keys_nmL l)
  obtain ⟨es', he', hk⟩ := fold_keys (.lit (.bool true)) (fun k => ∃ s ∈ l, k = nmL s) (l.map nmL) [] (by simp) (fun x hx => by
    obtain ⟨s, hs, rfl⟩ := List.mem_map.1 hx
    exact ⟨s, hs, rfl⟩)
  have e2 : setD l = .map es := he
  have e3 : (DataW.map es : DataW Unit) = .map es' := he.symm.trans he'
  injection e3 with e3
  subst e3
  rw [e2]
  rw [show Maps.setOf (.lit (.bool true)) (l.map nmL) = DataW.map es from he] at hh
  show (es.map fun p => Go.strOf p.1).Nodup ∧ ∀ x, x ∈ (es.map fun p => Go.strOf p.1) ↔ _
  constructor
  · rw [List.Nodup, List.pairwise_map]
    refine hp.imp_of_mem (fun {p q} h1 h2 hne e => hne ?_)
    obtain ⟨s, -, hs⟩ := hk p h1
    obtain ⟨s', -, hs'⟩ := hk q h2
    rw [hs, hs', strOf_nmL, strOf_nmL] at e
    rw [hs, hs']
    show Lit.string _ = Lit.string _
    rw [e]
  · intro x
    constructor
    · intro h
      obtain ⟨p, hp, rfl⟩ := List.mem_map.1 h
      obtain ⟨s, hs, he⟩ := hk p hp
      exact ⟨s, hs, by rw [he]; rfl⟩
    · rintro ⟨s, hs, rfl⟩
      have h1 := hh (nmL s)
      have h2 : (l.map nmL).any (fun x => x.sameKey (nmL s)) = true := List.any_eq_true.2 ⟨_, List.mem_map.2 ⟨s, hs, rfl⟩, WideAt.sameKey_self (isKey_nmL s)⟩
      rw [h2] at h1
      obtain ⟨p, hp, hpk⟩ := List.any_eq_true.1 (show es.any (fun p => p.1.sameKey (nmL s)) = true from h1)
      refine List.mem_map.2 ⟨p, hp, ?_⟩
      rw [WideAt.sameKey_eq hpk]; rfl
theorem rising_of {L : List Tx} (h : L.Pairwise (fun x y => x ≤ y)) (hn : L.Nodup) : L.Pairwise (fun x y => x < y) := by
  induction L with
  | nil => exact List.Pairwise.nil
  | cons x t ih =>
    rw [List.pairwise_cons] at h ⊢
    rw [List.nodup_cons] at hn
    refine ⟨fun y hy => ?_, ih h.2 hn.2⟩
    by_cases hlt : x < y
    · exact hlt
    · exact absurd (List.le_antisymm (h.1 y hy) (List.not_lt.1 hlt)) (fun e => hn.1 (e ▸ hy))
theorem needs_list {L : List Tx} {l : List ByteArray} (hp : L.Perm (Go.strKeys (setD l))) (hs : L.Pairwise (fun x y => x ≤ y)) : L = putL [] l := by
  obtain ⟨h1, h2⟩ := keys_setD l
  refine rising_eq _ _ (rising_of hs (hp.nodup_iff.2 h1)) (putL_rising l [] List.Pairwise.nil) (fun x => ?_)
  rw [hp.mem_iff, h2, putL_mem]
  simp
theorem putL_none {l : List ByteArray} (h : (putL [] l).length = 0) : l = [] := by
  cases l with
  | nil => rfl
  | cons s t =>
    have : s.data.toList ∈ putL [] (s :: t) := (putL_mem _ _).2 (.inr ⟨s, List.mem_cons_self .., rfl⟩)
    rw [List.length_eq_zero_iff.1 h] at this
    cases this
theorem insL_len {s : Tx} {l : List Tx} : (insL s l).length ≤ l.length + 1 := by
  unfold insL
  split
  · omega
  · have := congrArg List.length (List.take_append_drop (posL s l) l)
    simp only [List.length_append, List.length_cons] at this ⊢
    omega
theorem putL_len : ∀ (ns : List ByteArray) (l : List Tx), (putL l ns).length ≤ l.length + ns.length
  | [], l => by simp [putL]
  | n :: t, l => by
    have h : putL l (n :: t) = putL (insL n.data.toList l) t := rfl
    have h1 := putL_len t (insL n.data.toList l)
    have h2 := @insL_len n.data.toList l
    rw [h, List.length_cons]; omega
theorem posL_le (s : Tx) (l : List Tx) : posL s l ≤ l.length := by unfold posL; exact (List.takeWhile_prefix _).length_le
theorem posL_lt {s : Tx} : ∀ {l : List Tx} {k : Nat} {x : Tx}, k < posL s l → l[k]? = some x → x < s
  | [], k, x, h, _ => absurd h (by simp [posL])
  | y :: t, k, x, h, hx => by
    unfold posL at h
    rw [List.takeWhile_cons] at h
    by_cases hy : ltB y s = true
    · rw [if_pos hy] at h
      cases k with
      | zero => injection hx with hx; subst hx; exact of_decide_eq_true hy
      | succ k =>
        refine posL_lt (s := s) (l := t) (k := k) ?_ hx
        unfold posL
        rw [List.length_cons] at h; omega
    · rw [if_neg hy] at h
      exact absurd h (by simp)
theorem posL_end {s : Tx} : ∀ {l : List Tx} {x : Tx}, l[posL s l]? = some x → ¬ x < s
  | [], x, h => by simp at h
  | y :: t, x, h => by
    unfold posL at h
    rw [List.takeWhile_cons] at h
    by_cases hy : ltB y s = true
    · rw [if_pos hy, List.length_cons, List.getElem?_cons_succ] at h
      exact posL_end (s := s) (l := t) h
    · rw [if_neg hy] at h
      injection h with h
      subst h
      exact fun hlt => hy (decide_eq_true hlt)
/-- Where no more is less: the place. -/
theorem posL_at {s : Tx} : ∀ {l : List Tx} {k : Nat}, k ≤ l.length → (∀ (i : Nat) x, i < k → l[i]? = some x → x < s) → (∀ x, l[k]? = some x → ¬ x < s) → posL s l = k
  | [], k, hk, _, _ => by have : k = 0 := by simpa using hk
                          subst this; rfl
  | y :: t, k, hk, h1, h2 => by
    unfold posL
    rw [List.takeWhile_cons]
    cases k with
    | zero =>
      have := h2 y rfl
      rw [if_neg (by unfold ltB; simpa using this)]; rfl
    | succ k =>
      have hy := h1 0 y (by omega) rfl
      rw [if_pos (show ltB y s = true from decide_eq_true hy)]
      have := posL_at (s := s) (l := t) (k := k) (by simpa using hk) (fun i x hi hx => h1 (i + 1) x (by omega) hx) (fun x hx => h2 x hx)
      unfold posL at this
      rw [List.length_cons, this]
end Go.Proofs.Ytppnmeobnilojaa

/- The contract of ref22.Seen. -/
namespace Go.Proofs.Ytppnmeobnilojaa
set_option linter.unusedVariables false
set_option linter.unusedSimpArgs false
open Go.RowKit
set_option maxRecDepth 100000 in
set_option maxHeartbeats 2000000 in
theorem rseen_any (day : Int) (fx : List Fx) (nm : ByteArray) (a : Option Addr) (len cap : Nat) (w : World) (hS : SlR fxK w [] fx a len cap) :
    Calls Try.prog 37 #[.agg #[.int .i64 day, .slice a len cap], .string nm] w fun x w' => x = seenRt (seenV day fx nm) ∧ Below w.heap.size w w' := by
  obtain ⟨f1, f2, f3⟩ := hS.facts
  have HL := Lib.hid f1
  have hal := (Below.refl w.heap.size w).alloc (Nat.le_refl _) (.cells #[.int .i64 day, .slice a len cap] 58)
  have HS := Lib.hid (hS.kept (Kept.of_below hal []))
  have HB0 := Lib.hid hal
  have BX := Lib.hid (Mem.Blk.new w 58 #[.int .i64 day, .slice a len cap])
  obtain ⟨R, hR⟩ : ∃ R, R = seenRt (seenV day fx nm) := ⟨_, rfl⟩
  rw [← hR]
  have HR := Lib.hid hR
  clear hR hS hal f1
  go_enter Try.func37, Try.ntmps37
  go_upto_region 1 with (fail)
  generalize w.alloc (.cells #[.int .i64 day, .slice a len cap] 58) = v at *
  go_wp2_with fail
  go_loopw [6, 7, 8, 9] (fun u y z i wr => ∃ (k : Nat) (b : Bool) (d n : Int), i = .int .i64 (k : Nat) ∧ u = .bool b ∧ y = .int .i64 d ∧ z = .int .i64 n ∧ k ≤ len ∧ Hid (BestR day nm fx k b d n) ∧ Hid (Below v.heap.size v wr)) (fun _ _ _ i _ => len - (intOf i).toNat)
  case atStart => exact ⟨0, false, 0, 0, rfl, rfl, rfl, rfl, Nat.zero_le _, BestR.start _ _ _, Below.refl _ _⟩
  case round =>
    obtain ⟨k, b, d, n, rfl, rfl, rfl, rfl, hk, HN, HB⟩ := hrel
    have BW := Lib.hid (BX.out.below HB.out)
    obtain ⟨c0, c1, -, -⟩ := BW.out.two
    have HSW := Lib.hid (HS.out.kept (Kept.of_below HB.out []))
    by_cases hlt : k < len
    · have hk' : (k : Int) < (len : Int) := by omega
      obtain ⟨q, o, f, rfl, hbl, -, hf, -, k1, k2, u0, u1, u2⟩ := fx_at HSW.out k hlt
      have HF := Lib.hid hf
      have hal := (Below.refl wr.heap.size wr).alloc (Nat.le_refl _) (.cells #[.string f.name, .int .i64 f.day, .int .i64 f.val] 82)
      have HB2 := Lib.hid (HB.out.trans (hal.mono HB.out.size))
      have BF := Lib.hid (Mem.Blk.new wr 82 #[.string f.name, .int .i64 f.day, .int .i64 f.val])
      have BW2 := Lib.hid (BW.out.below hal)
      clear hf hal HSW HB HS BX BW
      go_upto_region 8 with (fail)
      generalize wr.alloc (.cells #[.string f.name, .int .i64 f.day, .int .i64 f.val] 82) = v2 at *
      generalize wr.heap.size = h2 at *
      clear c0 c1 u0 u1 u2
      obtain ⟨c0, c1, -, -⟩ := BW2.out.two
      have d0 : v2.cell? ⟨h2, 0, none⟩ = _ := BF.out.cell 0
      have d1 : v2.cell? ⟨h2, 1, none⟩ = _ := BF.out.cell 1
      have d2 : v2.cell? ⟨h2, 2, none⟩ = _ := BF.out.cell 2
      simp only [List.getElem?_toArray, List.getElem?_cons_zero, List.getElem?_cons_succ] at d0 d1 d2
      by_cases hn : f.name = nm
      case neg =>
        have t1 : (f.name.toList == nm.toList) = false := tl_ne hn
        have HX := Lib.hid (HN.out.skip HF.out (fun hh => hn hh.1))
        clear hn HN
        go_wp2_with fail
        go_roundw
        case rel => exact ⟨k + 1, b, _, _, by go_num, rfl, rfl, rfl, by omega, HX.out, HB2.out⟩
        case measure => simp [intOf]; omega
      case pos =>
        by_cases hd : f.day ≤ day
        case neg =>
          have hdd : decide (f.day ≤ day) = false := decide_eq_false hd
          have HX := Lib.hid (HN.out.skip HF.out (fun hh => hd hh.2.1))
          clear HN
          subst hn
          go_wp2_with fail
          go_roundw
          case rel => exact ⟨k + 1, b, _, _, by go_num, rfl, rfl, rfl, by omega, HX.out, HB2.out⟩
          case measure => simp [intOf]; omega
        case pos =>
          have hdd : decide (f.day ≤ day) = true := decide_eq_true hd
          cases b with
          | false =>
            have HX := Lib.hid (HN.out.take HF.out ⟨hn, hd, fun h => by cases h⟩)
            clear HN
            subst hn
            go_wp2_with fail
            go_roundw
            case rel => exact ⟨k + 1, true, _, _, by go_num, rfl, rfl, rfl, by omega, HX.out, HB2.out⟩
            case measure => simp [intOf]; omega
          | true =>
            by_cases hgd : d < f.day
            case pos =>
              have hgg : decide (d < f.day) = true := decide_eq_true hgd
              have HX := Lib.hid (HN.out.take HF.out ⟨hn, hd, fun _ => hgd⟩)
              clear HN
              subst hn
              go_wp2_with fail
              go_roundw
              case rel => exact ⟨k + 1, true, _, _, by go_num, rfl, rfl, rfl, by omega, HX.out, HB2.out⟩
              case measure => simp [intOf]; omega
            case neg =>
              have hgg : decide (d < f.day) = false := decide_eq_false hgd
              have HX := Lib.hid (HN.out.skip HF.out (fun hh => hgd (hh.2.2 rfl)))
              clear HN
              subst hn
              go_wp2_with fail
              go_roundw
              case rel => exact ⟨k + 1, true, _, _, by go_num, rfl, rfl, rfl, by omega, HX.out, HB2.out⟩
              case measure => simp [intOf]; omega
    · have hk' : ¬ (k : Int) < (len : Int) := by omega
      obtain rfl : k = fx.length := by have := HL.out; omega
      have HB2 := Lib.hid (HB0.out.trans (HB.out.mono HB0.out.size))
      obtain rfl : R = .returned (.tuple #[.int .i64 n, .bool b]) := by rw [HR.out, HN.out.done]
      clear HR HN
      go_wp2_with fail
      go_ret2
      exact ⟨rfl, HB2.out⟩
end Go.Proofs.Ytppnmeobnilojaa

/- The contract of ref03.Same, of two lists that are one. -/
namespace Go.Proofs.Ytppnmeobnilojaa
set_option linter.unusedVariables false
set_option linter.unusedSimpArgs false
open Go.RowKit
theorem str_at {w : World} {X : List Nat} {L : List (List UInt8)} {a : Option Addr} {len cap : Nat} (h : SlR strK w X L a len cap) (k : Nat) (hk : k < len) : ∃ b o s, a = some ⟨b, o, none⟩ ∧ L[k]? = some s ∧ w.cell? ⟨b, o + k, none⟩ = some (.string ⟨s.toArray⟩) := by
  obtain ⟨b, o, s, cs, ha, -, -, hs, hR, -, hc⟩ := h.at k hk
  have hR' : cs = [encStr s] := hR
  subst hR'
  refine ⟨b, o, s, ha, hs, ?_⟩
  have := hc 0 _ rfl
  simpa [strK, encStr] using this
set_option maxRecDepth 100000 in
set_option maxHeartbeats 2000000 in
theorem sames_any (L : List (List UInt8)) (a a' : Option Addr) (len cap cap' : Nat) (w : World) (h1 : SlR strK w [] L a len cap) (h2 : SlR strK w [] L a' len cap') :
    Calls Try.prog 44 #[.slice a len cap, .slice a' len cap'] w fun x w' => x = .returned (.bool true) ∧ Below w.heap.size w w' := by
  obtain ⟨f1, f2, f3⟩ := h1.facts
  have HA := Lib.hid h1
  have HB := Lib.hid h2
  clear h1 h2 f1
  go_enter Try.func44, Try.ntmps44
  go_wp2_with fail
  go_loopw [5] (fun i wr => ∃ (k : Nat), i = .int .i64 (k : Nat) ∧ k ≤ len ∧ Hid (Below w.heap.size w wr)) (fun i _ => len - (intOf i).toNat)
  case atStart => exact ⟨0, rfl, Nat.zero_le _, Below.refl _ _⟩
  case round =>
    obtain ⟨k, rfl, hk, HR⟩ := hrel
    by_cases hlt : k < len
    · have hk' : (k : Int) < (len : Int) := by omega
      have i0 : (0 : Int) ≤ (k : Int) := by omega
      obtain ⟨b, o, s, rfl, hs, u0⟩ := str_at (HA.out.kept (Kept.of_below HR.out [])) k hlt
      obtain ⟨b', o', s', rfl, hs', u1⟩ := str_at (HB.out.kept (Kept.of_below HR.out [])) k hlt
      obtain rfl : s = s' := by rw [hs] at hs'; injection hs'
      clear hs hs'
      generalize (⟨s.toArray⟩ : ByteArray) = t at *
      go_wp2_with fail
      go_quiet (fail)
      go_wp2_with fail
      go_roundw
      case rel => exact ⟨k + 1, by go_num, by omega, below_dN HR.out _⟩
      case measure => simp [intOf]; omega
    · have hk' : ¬ (k : Int) < (len : Int) := by omega
      go_wp2_with fail
      go_ret
      exact ⟨rfl, HR.out⟩
end Go.Proofs.Ytppnmeobnilojaa
