/- A part of the proof: LdH, LdW, LdX, LdY, LdZ, one behind another. -/
import Derived.Test.YtgbiimoednmlgaaMOA
import Derived.Test.YtgbiimoednmlgaaMOB
import Derived.Test.YtgbiimoednmlgaaMOC
import Derived.Test.YtgbiimoednmlgaaMOD
/- The contracts of may, and whether all moves may be. -/
namespace Go.Proofs.Ytgbiimoednmlgaa
set_option linter.unusedVariables false
set_option linter.unusedSimpArgs false
open Go.RowKit
set_option maxRecDepth 100000 in
set_option maxHeartbeats 2000000 in
theorem may_any (x : Mv) (hx : MvOk x) (w : World) : Calls Try.prog 35 #[.agg (mvC x).toArray] w fun e w' => e = .returned (.bool (mayM x)) ∧ Below w.heap.size w w' := by
  have HB := Lib.hid ((Below.refl w.heap.size w).alloc (Nat.le_refl _) (.cells (mvC x).toArray 72))
  have BX := Lib.hid (Mem.Blk.new w 72 (mvC x).toArray)
  have HSP : Hid (∀ W, Calls Try.prog 47 #[.string x.src] W fun e w' => e = .returned (.bool (nmd x.src)) ∧ w' = W) := fun W => (named_any x.src W (by have := hx.src; unfold maxLen at this; omega)).mono fun _ _ h => ⟨h.1, h.2.symm⟩
  have HSD : Hid (∀ W, Calls Try.prog 47 #[.string x.dst] W fun e w' => e = .returned (.bool (nmd x.dst)) ∧ w' = W) := fun W => (named_any x.dst W (by have := hx.dst; unfold maxLen at this; omega)).mono fun _ _ h => ⟨h.1, h.2.symm⟩
  have HSC : Hid (∀ W, Calls Try.prog 47 #[.string x.coin] W fun e w' => e = .returned (.bool (nmd x.coin)) ∧ w' = W) := fun W => (named_any x.coin W (by have := hx.coin; unfold maxLen at this; omega)).mono fun _ _ h => ⟨h.1, h.2.symm⟩
  have hsm := same_b x.src x.dst
  obtain ⟨R, hR⟩ : ∃ R, R = mayM x := ⟨_, rfl⟩
  have HR := Lib.hid hR
  rw [← hR]
  clear hR hx
  show Calls Try.prog 35 #[.agg #[.string x.src, .string x.dst, .string x.coin, .int .i64 x.amt]] w _
  go_enter Try.func35, Try.ntmps35
  go_upto_region 1 with (fail)
  have HB' : Hid (Below w.heap.size w (w.alloc (.cells #[.string x.src, .string x.dst, .string x.coin, .int .i64 x.amt] 72))) := HB.out
  have BX' : Hid (Mem.Blk (w.alloc (.cells #[.string x.src, .string x.dst, .string x.coin, .int .i64 x.amt] 72)) w.heap.size 72 (mvC x).toArray) := BX.out
  clear HB BX
  generalize w.alloc (.cells #[.string x.src, .string x.dst, .string x.coin, .int .i64 x.amt] 72) = w1 at *
  have c0 : w1.cell? ⟨w.heap.size, 0, none⟩ = some (.string x.src) := BX'.out.cell 0
  have c1 : w1.cell? ⟨w.heap.size, 1, none⟩ = some (.string x.dst) := BX'.out.cell 1
  have c2 : w1.cell? ⟨w.heap.size, 2, none⟩ = some (.string x.coin) := BX'.out.cell 2
  have c3 : w1.cell? ⟨w.heap.size, 3, none⟩ = some (.int .i64 x.amt) := BX'.out.cell 3
  cases h1 : nmd x.src with
  | false =>
    rw [h1] at HSP
    have HQ : Hid (R = false) := by show R = false; rw [HR.out]; unfold mayM; rw [h1]; simp
    clear HR h1
    go_wp2_with fail
    go_at_call 47
    (with_reducible refine (HSP.out _).mono ?_)
    rintro e w2 ⟨rfl, hw2⟩
    rw [hw2]
    clear hw2 w2
    go_wp2_with fail
    go_ret
    exact ⟨by rw [HQ.out]; rfl, HB'.out⟩
  | true =>
    rw [h1] at HSP
    go_wp2_with fail
    go_at_call 47
    (with_reducible refine (HSP.out _).mono ?_)
    rintro e w2 ⟨rfl, hw2⟩
    rw [hw2]
    clear hw2 w2
    cases h2 : nmd x.dst with
    | false =>
      rw [h2] at HSD
      have HQ : Hid (R = false) := by show R = false; rw [HR.out]; unfold mayM; rw [h2]; simp
      clear HR h1 h2
      go_wp2_with fail
      go_at_call 47
      (with_reducible refine (HSD.out _).mono ?_)
      rintro e w2 ⟨rfl, hw2⟩
      rw [hw2]
      clear hw2 w2
      go_wp2_with fail
      go_ret
      exact ⟨by rw [HQ.out]; rfl, HB'.out⟩
    | true =>
      rw [h2] at HSD
      go_wp2_with fail
      go_at_call 47
      (with_reducible refine (HSD.out _).mono ?_)
      rintro e w2 ⟨rfl, hw2⟩
      rw [hw2]
      clear hw2 w2
      cases h3 : nmd x.coin with
      | false =>
        rw [h3] at HSC
        have HQ : Hid (R = false) := by show R = false; rw [HR.out]; unfold mayM; rw [h3]; simp
        clear HR h1 h2 h3
        go_wp2_with fail
        go_at_call 47
        (with_reducible refine (HSC.out _).mono ?_)
        rintro e w2 ⟨rfl, hw2⟩
        rw [hw2]
        clear hw2 w2
        go_wp2_with fail
        go_ret
        exact ⟨by rw [HQ.out]; rfl, HB'.out⟩
      | true =>
        rw [h3] at HSC
        go_wp2_with fail
        go_at_call 47
        (with_reducible refine (HSC.out _).mono ?_)
        rintro e w2 ⟨rfl, hw2⟩
        rw [hw2]
        clear hw2 w2
        by_cases h4 : x.src.data.toList = x.dst.data.toList
        · rw [decide_eq_true h4] at hsm
          have HQ : Hid (R = false) := by show R = false; rw [HR.out]; unfold mayM; rw [decide_eq_false (by simpa using h4)]; simp
          clear HR h1 h2 h3 h4
          go_wp2_with fail
          go_ret
          exact ⟨by rw [HQ.out]; rfl, HB'.out⟩
        · rw [decide_eq_false h4] at hsm
          by_cases h5 : 1 ≤ x.amt
          · have HQ : Hid (R = true) := by show R = true; rw [HR.out]; unfold mayM; rw [h1, h2, h3, decide_eq_true h4, decide_eq_true h5]; rfl
            have h5d : decide (1 ≤ x.amt) = true := decide_eq_true h5
            clear HR h1 h2 h3 h4 h5
            go_wp2_with fail
            go_ret
            exact ⟨by rw [HQ.out]; rfl, HB'.out⟩
          · have HQ : Hid (R = false) := by show R = false; rw [HR.out]; unfold mayM; rw [decide_eq_false h5]; simp
            have h5d : decide (1 ≤ x.amt) = false := decide_eq_false h5
            clear HR h1 h2 h3 h4 h5
            go_wp2_with fail
            go_ret
            exact ⟨by rw [HQ.out]; rfl, HB'.out⟩
set_option maxRecDepth 100000 in
set_option maxHeartbeats 2000000 in
theorem postf_any (x : Mv) (hx : MvOk x) (w : World) : Calls Try.prog 34 #[.agg (mvC x).toArray] w fun e w' => e = .returned (.bool (!mayM x)) ∧ Below w.heap.size w w' := by
  have HB := Lib.hid ((Below.refl w.heap.size w).alloc (Nat.le_refl _) (.cells (mvC x).toArray 72))
  have BX := Lib.hid (Mem.Blk.new w 72 (mvC x).toArray)
  have HM : Hid (∀ W, Calls Try.prog 35 #[.agg #[.string x.src, .string x.dst, .string x.coin, .int .i64 x.amt]] W _) := fun W => may_any x hx W
  show Calls Try.prog 34 #[.agg #[.string x.src, .string x.dst, .string x.coin, .int .i64 x.amt]] w _
  go_enter Try.func34, Try.ntmps34
  go_upto_region 1 with (fail)
  have HB' : Hid (Below w.heap.size w (w.alloc (.cells #[.string x.src, .string x.dst, .string x.coin, .int .i64 x.amt] 72))) := HB.out
  have BX' : Hid (Mem.Blk (w.alloc (.cells #[.string x.src, .string x.dst, .string x.coin, .int .i64 x.amt] 72)) w.heap.size 72 (mvC x).toArray) := BX.out
  clear HB BX hx
  generalize w.alloc (.cells #[.string x.src, .string x.dst, .string x.coin, .int .i64 x.amt] 72) = w1 at *
  have c0 : w1.cell? ⟨w.heap.size, 0, none⟩ = some (.string x.src) := BX'.out.cell 0
  have c1 : w1.cell? ⟨w.heap.size, 1, none⟩ = some (.string x.dst) := BX'.out.cell 1
  have c2 : w1.cell? ⟨w.heap.size, 2, none⟩ = some (.string x.coin) := BX'.out.cell 2
  have c3 : w1.cell? ⟨w.heap.size, 3, none⟩ = some (.int .i64 x.amt) := BX'.out.cell 3
  go_wp2_with fail
  go_at_call 35
  (with_reducible refine (HM.out _).mono ?_)
  rintro e w2 ⟨rfl, b2⟩
  have HB2 := Lib.hid (HB'.out.trans (b2.mono HB'.out.size))
  clear b2
  go_wp2_with fail
  go_ret
  exact ⟨rfl, HB2.out⟩
set_option maxRecDepth 100000 in
set_option maxHeartbeats 2000000 in
/-- Is there a move that may not be? -/
theorem indexM_any (l : List Mv) (a : Option Addr) (len cap : Nat) (w : World) (h : SlR mvK w [] l a len cap) (hlen : len ≤ 1000000) :
    Calls Try.prog 66 #[.slice a len cap, .func (.func 34) #[] #[]] w fun x w' => (∃ i : Int, x = .returned (.int .i64 i) ∧ (0 ≤ i ↔ l.all mayM = false)) ∧ Below w.heap.size w w' := by
  have HS := Lib.hid h
  have HL := Lib.hid h.facts.1
  have HN := Lib.hid hlen
  have eg := entersL (P := Try.prog) Try.func34 (by kernel_rfl) rfl
  obtain ⟨B, hB⟩ : ∃ B, B = l.all mayM := ⟨_, rfl⟩
  have HBB := Lib.hid hB
  rw [← hB]
  clear h hlen hB
  go_enter Try.func66, Try.ntmps66
  go_wp2_with fail
  go_loopw [8] (fun i wr => ∃ (k : Nat), i = .int .i64 (k : Nat) ∧ k ≤ len ∧ Hid ((∀ (j : Nat) x, j < k → l[j]? = some x → mayM x = true) ∧ Below w.heap.size w wr)) (fun i _ => len - (intOf i).toNat)
  case atStart => exact ⟨0, rfl, Nat.zero_le _, fun j x h => absurd h (by omega), Below.refl _ _⟩
  case round =>
    obtain ⟨k, rfl, hk, HT⟩ := hrel
    by_cases hlt : k < len
    · have hlt' : (k : Int) < (len : Int) := by omega
      have i0 : (0 : Int) ≤ (k : Int) := by omega
      have i1 : (k : Int) ≤ 1000000 := by have := HN.out; omega
      have HSR := Lib.hid (HS.out.kept (Kept.of_below HT.out.2 []))
      obtain ⟨b, o, x, rfl, hx, hok, u0, u1, u2, u3⟩ := mv_at HSR.out k hlt
      have HX := Lib.hid hx
      have HP : Hid (∀ W, Calls Try.prog 34 #[.agg #[.string x.src, .string x.dst, .string x.coin, .int .i64 x.amt]] W _) := fun W => postf_any x hok W
      have HTR := Lib.hid HT.out.1
      have HB0 := Lib.hid HT.out.2
      have HKL := Lib.hid hlt
      clear hx hok hlt HT HSR
      go_wp2_with fail
      go_at_call 34
      (with_reducible refine (HP.out _).mono ?_)
      rintro e w2 ⟨rfl, b2⟩
      have HB2 := Lib.hid (HB0.out.trans (b2.mono HB0.out.size))
      clear b2 HP u0 u1 u2 u3 HB0
      cases hm : mayM x with
      | true =>
        have HT2 : Hid (∀ (j : Nat) x, j < k + 1 → l[j]? = some x → mayM x = true) := by
          intro j y hj hy
          by_cases e : j < k
          · exact HTR.out j y e hy
          · obtain rfl : j = k := by omega
            rw [HX.out] at hy; rw [← Option.some.inj hy]; exact hm
        clear hm
        go_wp2_with fail
        go_roundw
        case rel => exact ⟨k + 1, by go_num, by have := HKL.out; omega, HT2.out, HB2.out⟩
        case measure => simp [intOf]; have := HKL.out; omega
      | false =>
        have HF : Hid (l.all mayM = false) := List.all_eq_false.2 ⟨x, List.mem_of_getElem? HX.out, by rw [hm]; simp⟩
        clear hm
        go_wp2_with fail
        go_ret
        exact ⟨⟨_, rfl, ⟨fun _ => by rw [HBB.out, HF.out], fun _ => i0⟩⟩, HB2.out⟩
    · have hlt' : ¬ (k : Int) < (len : Int) := by omega
      have HF : Hid (l.all mayM = true) := List.all_eq_true.2 (fun x hx => by
        obtain ⟨j, hj⟩ := List.getElem?_of_mem hx
        exact HT.out.1 j x (by have := (List.getElem?_eq_some_iff.1 hj).1; have := HL.out; omega) hj)
      have HB2 := Lib.hid HT.out.2
      clear HT
      go_wp2_with fail
      go_ret
      exact ⟨⟨_, rfl, ⟨fun h => absurd h (by decide), fun h => by rw [HBB.out, HF.out] at h; cases h⟩⟩, HB2.out⟩
set_option maxRecDepth 100000 in
set_option maxHeartbeats 2000000 in
theorem containsM_any (l : List Mv) (a : Option Addr) (len cap : Nat) (w : World) (h : SlR mvK w [] l a len cap) (hlen : len ≤ 1000000) :
    Calls Try.prog 33 #[.slice a len cap, .func (.func 34) #[] #[]] w fun x w' => x = .returned (.bool (!(l.all mayM))) ∧ Below w.heap.size w w' := by
  have HI := Lib.hid (indexM_any l a len cap w h hlen)
  clear h hlen
  go_enter Try.func33, Try.ntmps33
  go_wp2_with fail
  go_at_call 66
  (with_reducible refine HI.out.mono ?_)
  rintro e w2 ⟨⟨i, rfl, hi⟩, b2⟩
  have HB2 := Lib.hid b2
  clear b2 HI
  have HQ : Hid (decide (0 ≤ i) = !(l.all mayM)) := by
    show _ = _
    cases hm : l.all mayM with
    | true =>
      rw [hm] at hi
      exact decide_eq_false (fun h => by simpa using hi.1 h)
    | false => exact decide_eq_true (hi.2 hm)
  clear hi
  go_wp2_with fail
  go_ret
  exact ⟨by rw [← HQ.out]; rfl, HB2.out⟩
end Go.Proofs.Ytgbiimoednmlgaa

/- The contract of Post. -/
namespace Go.Proofs.Ytgbiimoednmlgaa
set_option linter.unusedVariables false
set_option linter.unusedSimpArgs false
open Go.RowKit
theorem PutD.next {es es' : List Ent} {a : Acct} {L : List (Ky × Int)} (h : PutD es a es') (hl : LsE es L) (hc : CoE es L) (hn : I64 a.amt) : LsE es' (L ++ [(a.key, a.amt)]) ∧ CoE es' (L ++ [(a.key, a.amt)]) := by
  obtain ⟨i, hat, ⟨hh, e, av', he, rfl⟩ | ⟨hh, av', rfl⟩⟩ := h
  · obtain ⟨x, hx, hxk⟩ := hitK_key hh
    rw [he] at hx; injection hx with hx; subst hx
    rw [← hxk]
    exact ⟨hl.more he hn, hc.more a.amt av' he⟩
  · exact ⟨hl.new hat hh hn, hc.new i a.party a.coin a.amt av'⟩
/-- Entries stay where a row of another type grows. -/
theorem EnAt.grown {base base' : Nat} {w w' : World} {v u : Value} {es : List Ent} {t : TypeId} {sz n : Nat} {xs : List Value} (h : EnAt base w v es) (ho : w.ownsRow base' t sz u n xs) (h1 : t ≠ 79) (h2 : t ≠ 2) (g : w.grownBy w' u.ownBlock) : EnAt base w' v es :=
  ⟨own_grown h.row g (fun k hk hk2 => row_ne ho h.row h1 hk2 hk), fun j e he => own_grown (h.each j e he) g (fun k hk hk2 => row_ne ho (h.each j e he) h2 hk2 hk), h.apart, h.siz⟩
/-- What Post answers. -/
def Verd (l : List Acct) (m : List Mv) (out : List Acct) (e : Int) : Prop :=
  (e = 1 ∧ out = [] ∧ ¬ (rightA l = true ∧ m.all mayM = true)) ∨ (rightA l = true ∧ m.all mayM = true ∧ ((e = 2 ∧ out = [] ∧ ¬ FitL (conA l ++ conM m)) ∨ (e = 0 ∧ FitL (conA l ++ conM m) ∧ PostOut out (conA l ++ conM m))))
def PostR (w' : World) (l : List Acct) (m : List Mv) (x : Ending) : Prop := ∃ (out : List Acct) (a : Option Addr) (c : Nat) (e : Int), x = .returned (.tuple #[.slice a out.length c, .int .i64 e]) ∧ SlR acctK w' [] out a out.length c ∧ Verd l m out e ∧ out.length ≤ l.length + 2 * m.length
/-- Where Post's gathering stands. -/
structure GaSt (w wr : World) (v : Value) (es : List Ent) (L : List (Ky × Int)) : Prop where
  en : EnAt w.heap.size wr v es
  ls : LsE es L
  co : CoE es L
  bel : Below w.heap.size w wr
theorem conA_take {l : List Acct} {k : Nat} {a : Acct} (h : l[k]? = some a) : conA (l.take (k + 1)) = conA (l.take k) ++ [(a.key, a.amt)] := by
  obtain ⟨hk, e⟩ := List.getElem?_eq_some_iff.1 h
  rw [← List.take_append_getElem hk, e]
  unfold conA
  rw [List.map_append]; rfl
theorem conM_take {m : List Mv} {k : Nat} {x : Mv} (h : m[k]? = some x) : conM (m.take (k + 1)) = conM (m.take k) ++ [(x.kf, -x.amt)] ++ [(x.kt, x.amt)] := by
  obtain ⟨hk, e⟩ := List.getElem?_eq_some_iff.1 h
  rw [← List.take_append_getElem hk, e, conM_append, conM_one, List.append_assoc]; rfl
theorem conM_len (m : List Mv) : (conM m).length = 2 * m.length := by
  induction m with
  | nil => rfl
  | cons x t ih =>
    have e : conM (x :: t) = [(x.kf, -x.amt), (x.kt, x.amt)] ++ conM t := by unfold conM; rw [List.flatMap_cons]
    rw [e, List.length_append, ih]
    show 2 + 2 * t.length = 2 * (t.length + 1); omega
theorem conA_len (l : List Acct) : (conA l).length = l.length := by unfold conA; rw [List.length_map]
/-- An entry's amounts, read. -/
theorem EnAt.ints {base : Nat} {w : World} {v : Value} {es : List Ent} (h : EnAt base w v es) {L : List (Ky × Int)} (hl : LsE es L) {k : Nat} {e : Ent} (he : es[k]? = some e) {a : Option Addr} {c : Nat} (ha : e.av = .slice a e.all.length c) : IntsAt w e.all a e.all.length := by
  refine ⟨rfl, fun j n hj => ⟨hl.rng e (List.mem_of_getElem? he) n (List.mem_of_getElem? hj), ?_⟩⟩
  have hr := h.each k e he
  rw [ha] at hr
  have hjl := (List.getElem?_eq_some_iff.1 hj).1
  obtain ⟨g, cap, hv, -⟩ := own_form hr (by omega)
  injection hv with e1 _ e3
  subst e1; subst e3
  refine ⟨g, 0, rfl, ?_⟩
  rw [Nat.zero_add, hr.cellAt j (by omega)]
  unfold intC
  rw [List.getElem?_map, hj]; rfl
/-- Books, written. -/
def outR (l : List Acct) : List Value := (l.map acctC).flatten
theorem infoA : (Try.prog.info? 51).map (fun i => (i.zero, i.size, i.bytes)) = some (some (.agg #[.string ⟨#[]⟩, .string ⟨#[]⟩, .int .i64 0]), 3, 40) := by kernel_rfl
theorem outR_slR {w0 w : World} {v : Value} {l : List Acct} (h : w.ownsRow w0.heap.size 51 3 v l.length (outR l)) (hb : Below w0.heap.size w0 w) (hok : ∀ a ∈ l, AcctOk a) : ∃ a c, v = .slice a l.length c ∧ SlR acctK w [] l a l.length c := by
  obtain ⟨a, c, rfl, hsl, -⟩ := own_sl (w0 := w0) (X := []) ⟨hb, h⟩ (by rw [List.length_map]) (fun c hc => by obtain ⟨s, _, rfl⟩ := List.mem_map.1 hc; rfl) (fun b hb => by cases hb)
  refine ⟨a, c, rfl, ⟨l.map acctC, by rw [List.length_map], fun i x cs hx hc => ?_, hsl⟩⟩
  rw [List.getElem?_map, hx] at hc
  injection hc with hc
  exact ⟨hc.symm, hok x (List.mem_of_getElem? hx)⟩
theorem outA_take {es : List Ent} {k : Nat} {e : Ent} (h : es[k]? = some e) : outA (es.take (k + 1)) = outA (es.take k) ++ (if e.all.sum = 0 then [] else [⟨e.party, e.coin, e.all.sum⟩]) := by
  obtain ⟨hk, e1⟩ := List.getElem?_eq_some_iff.1 h
  rw [← List.take_append_getElem hk, e1]
  unfold outA
  rw [List.filterMap_append, List.filterMap_cons, List.filterMap_nil]
  split
  · rename_i h1; split at h1
    · rename_i h2; rw [if_pos h2]
    · cases h1
  · rename_i b h1; split at h1
    · cases h1
    · rename_i h2; rw [if_neg h2]; injection h1 with h1; rw [h1]
theorem outA_len (es : List Ent) : (outA es).length ≤ es.length := List.length_filterMap_le ..
end Go.Proofs.Ytgbiimoednmlgaa

/- The walk of Post. -/
namespace Go.Proofs.Ytgbiimoednmlgaa
set_option linter.unusedVariables false
set_option linter.unusedSimpArgs false
open Go.RowKit
/-- Where Post's handing out stands. -/
structure OuSt (w wr : World) (ve : Value) (es : List Ent) (v : Value) (k : Nat) : Prop where
  en : EnAt w.heap.size wr ve es
  bel : Below w.heap.size w wr
  out : wr.ownsRow w.heap.size 51 3 v (outA (es.take k)).length (outR (outA (es.take k)))
  fit : ∀ (j : Nat) e, j < k → es[j]? = some e → fits64 e.all.sum = true
theorem outR_append (a b : List Acct) : outR (a ++ b) = outR a ++ outR b := by unfold outR; rw [List.map_append, List.flatten_append]
theorem outR_one (a : Acct) : outR [a] = acctC a := by unfold outR; simp
set_option maxRecDepth 100000 in
set_option maxHeartbeats 8000000 in
theorem post_any (l : List Acct) (m : List Mv) (la : Option Addr) (ll lc : Nat) (ma : Option Addr) (ml mc : Nat) (w : World) (hl : SlR acctK w [] l la ll lc) (hm : SlR mvK w [] m ma ml mc) (hll : ll ≤ 1000) (hml : ml ≤ 1000) :
    Calls Try.prog 12 #[.slice la ll lc, .slice ma ml mc] w fun x w' => PostR w' l m x ∧ Below w.heap.size w w' := by
  have HS := Lib.hid hl
  have HM := Lib.hid hm
  have HLL := Lib.hid hl.facts.1
  have HML := Lib.hid hm.facts.1
  have HLB := Lib.hid hll
  have HMB := Lib.hid hml
  have HRT := Lib.hid (right_any l la ll lc w hl (by omega))
  clear hl hm hll hml
  have HPR : Hid (∀ W (e : Int), Verd l m [] e → PostR W l m (.returned (.tuple #[.slice none 0 0, .int .i64 e]))) := fun W e hv => ⟨[], none, 0, e, rfl, SlR.nil _ _ _, hv, Nat.zero_le _⟩
  go_enter Try.func12, Try.ntmps12
  go_wp2_with fail
  go_at_call 22
  (with_reducible refine HRT.out.mono ?_)
  rintro x w1 ⟨rfl, b1⟩
  have HB1 := Lib.hid b1
  clear b1 HRT
  cases hr : rightA l with
  | false =>
    have HV : Hid (Verd l m [] 1) := .inl ⟨rfl, rfl, fun h => by rw [hr] at h; cases h.1⟩
    clear hr
    go_wp2_with fail
    go_ret2
    exact ⟨HPR.out _ _ HV.out, HB1.out⟩
  | true =>
    have HRR := Lib.hid hr
    have HCM := Lib.hid (containsM_any m ma ml mc w1 (HM.out.kept (Kept.of_below HB1.out [])) (by have := HMB.out; omega))
    clear hr
    go_wp2_with fail
    go_at_call 33
    (with_reducible refine HCM.out.mono ?_)
    rintro x w2 ⟨rfl, b2⟩
    have HB2 := Lib.hid (HB1.out.trans (b2.mono HB1.out.size))
    clear b2 HCM
    cases hmm : m.all mayM with
    | false =>
      have HV : Hid (Verd l m [] 1) := .inl ⟨rfl, rfl, fun h => by rw [hmm] at h; cases h.2⟩
      clear hmm
      go_wp2_with fail
      go_ret2
      exact ⟨HPR.out _ _ HV.out, HB2.out⟩
    | true =>
      have HMM := Lib.hid hmm
      clear hmm
      go_upto_region 4 with (fail)
      go_wp2_with fail
      go_loopw [6, 25] (fun v i wr => ∃ (k : Nat) (es : List Ent) (va : Option Addr) (vc : Nat), v = .slice va es.length vc ∧ i = .int .i64 (k : Nat) ∧ k ≤ ll ∧ Hid (GaSt w wr (.slice va es.length vc) es (conA (l.take k)))) (fun _ i _ => ll - (intOf i).toNat)
      case atStart => exact ⟨0, [], none, 0, rfl, rfl, Nat.zero_le _, ⟨EnAt.nil _ _, LsE.nil, fun c => rfl, HB2.out⟩⟩
      case round =>
        obtain ⟨k, es, va, vc, rfl, rfl, hk, HG⟩ := hrel
        by_cases hlt : k < ll
        · have hlt' : (k : Int) < (ll : Int) := by omega
          have i0 : (0 : Int) ≤ (k : Int) := by omega
          have i1 : (k : Int) ≤ 1000 := by have := HLB.out; omega
          have HSR := Lib.hid (HS.out.kept (Kept.of_below HG.out.bel []))
          obtain ⟨b, o, x, rfl, hx, hok, u0, u1, u2⟩ := acct_at HSR.out k hlt
          have HX := Lib.hid hx
          have HOK := Lib.hid hok
          have HKL := Lib.hid hlt
          have hal := (Below.refl wr.heap.size wr).alloc (Nat.le_refl _) (.cells #[.string x.party, .string x.coin, .int .i64 x.amt] 51)
          have HEA := Lib.hid (HG.out.en.below hal)
          have HBA := Lib.hid (HG.out.bel.trans (hal.mono HG.out.bel.size))
          have HLN : Hid (es.length ≤ 900000 ∧ ∀ e ∈ es, e.all.length ≤ 900000) := by
            have h1 := HG.out.ls.len
            rw [conA_len, List.length_take] at h1
            have h2 := HLB.out
            have h3 := HLL.out
            exact ⟨by omega, fun e he => by have := h1.2 e he; omega⟩
          have HPU : Hid (Calls Try.prog 36 #[.slice va es.length vc, .agg #[.string x.party, .string x.coin, .int .i64 x.amt]] _ _) := put_any w.heap.size _ es x _ HEA.out HBA.out.size HLN.out.1 HLN.out.2 ⟨hok.party, hok.coin⟩
          have BZ := Lib.hid (Mem.Blk.new wr 51 #[.string x.party, .string x.coin, .int .i64 x.amt])
          clear hx hok hlt hal HSR
          go_upto_region 7 with (fail)
          generalize wr.heap.size = zb at *
          generalize wr.alloc (.cells #[.string x.party, .string x.coin, .int .i64 x.amt] 51) = w3 at *
          clear u0 u1 u2
          have z0 : w3.cell? ⟨zb, 0, none⟩ = some (.string x.party) := BZ.out.cell 0
          have z1 : w3.cell? ⟨zb, 1, none⟩ = some (.string x.coin) := BZ.out.cell 1
          have z2 : w3.cell? ⟨zb, 2, none⟩ = some (.int .i64 x.amt) := BZ.out.cell 2
          go_wp2_with fail
          go_at_call 36
          (with_reducible refine HPU.out.mono ?_)
          rintro y w4 ⟨⟨v4, es4, rfl, he4, hp4⟩, b4, -⟩
          have hlc := hp4.next HG.out.ls HG.out.co HOK.out.amt
          rw [← conA_take HX.out] at hlc
          obtain ⟨va4, vc4, rfl⟩ := own_slice he4.row
          have HG4 : Hid (GaSt w w4 (.slice va4 es4.length vc4) es4 (conA (l.take (k + 1)))) := ⟨he4, hlc.1, hlc.2, HBA.out.trans b4⟩
          clear he4 hp4 b4 hlc HPU HEA HBA HG HLN z0 z1 z2 BZ
          go_wp2_with fail
          go_roundw
          case rel => exact ⟨k + 1, es4, va4, vc4, rfl, by go_num, by have := HKL.out; omega, HG4.out⟩
          case measure => simp [intOf]; have := HKL.out; omega
        · have hlt' : ¬ (k : Int) < (ll : Int) := by omega
          have hke : l.take k = l := List.take_of_length_le (by rw [HLL.out]; omega)
          rw [hke] at HG
          have HG0 : Hid (GaSt w wr (.slice va es.length vc) es (conA l ++ conM (m.take 0))) := by
            have : conA l ++ conM (m.take 0) = conA l := by rw [List.take_zero]; exact List.append_nil _
            show GaSt _ _ _ _ _
            rw [this]; exact HG.out
          clear HG hke hlt
          go_upto_region 9 with (fail)
          have HMB1 := Lib.hid HG0.out.bel
          go_wp2_with fail
          go_loopw [6, 35] (fun v i wr => ∃ (k : Nat) (es : List Ent) (va : Option Addr) (vc : Nat), v = .slice va es.length vc ∧ i = .int .i64 (k : Nat) ∧ k ≤ ml ∧ Hid (GaSt w wr (.slice va es.length vc) es (conA l ++ conM (m.take k)))) (fun _ i _ => ml - (intOf i).toNat)
          case atStart => exact ⟨0, es, va, vc, rfl, rfl, Nat.zero_le _, HG0.out⟩
          case round =>
            clear HG0 HMB1
            obtain ⟨j, es5, va5, vc5, rfl, rfl, hj, HG⟩ := hrel
            by_cases hjt : j < ml
            · have hjt' : (j : Int) < (ml : Int) := by omega
              have j0 : (0 : Int) ≤ (j : Int) := by omega
              have j1 : (j : Int) ≤ 1000 := by have := HMB.out; omega
              have HSR := Lib.hid (HM.out.kept (Kept.of_below HG.out.bel []))
              obtain ⟨b, o, x, rfl, hx, hok, u0, u1, u2, u3⟩ := mv_at HSR.out j hjt
              have HX := Lib.hid hx
              have HOK := Lib.hid hok
              have HJL := Lib.hid hjt
              have hmay : mayM x = true := List.all_eq_true.1 HMM.out x (List.mem_of_getElem? hx)
              have HAM : Hid (1 ≤ x.amt ∧ x.amt ≤ 9223372036854775807) := by
                unfold mayM at hmay
                simp only [Bool.and_eq_true, decide_eq_true_iff] at hmay
                have := hok.amt
                unfold I64 at this
                exact ⟨hmay.2, by omega⟩
              have hneg : IntKind.i64.wrap (-x.amt) = -x.amt := IntWalk.i64_in _ (by have := HAM.out; omega)
              have hal := (Below.refl wr.heap.size wr).alloc (Nat.le_refl _) (.cells #[.string x.src, .string x.dst, .string x.coin, .int .i64 x.amt] 72)
              have HEA := Lib.hid (HG.out.en.below hal)
              have HBA := Lib.hid (HG.out.bel.trans (hal.mono HG.out.bel.size))
              have HLN : Hid (es5.length ≤ 890000 ∧ ∀ e ∈ es5, e.all.length ≤ 890000) := by
                have h1 := HG.out.ls.len
                rw [List.length_append, conA_len, conM_len, List.length_take] at h1
                have h2 := HLB.out
                have h3 := HLL.out
                have h4 := HMB.out
                have h5 := HML.out
                exact ⟨by omega, fun e he => by have := h1.2 e he; omega⟩
              have HPU : Hid (Calls Try.prog 36 #[.slice va5 es5.length vc5, .agg #[.string x.src, .string x.coin, .int .i64 (-x.amt)]] _ _) := put_any w.heap.size _ es5 ⟨x.src, x.coin, -x.amt⟩ _ HEA.out HBA.out.size (by have := HLN.out.1; omega) (fun e he => by have := HLN.out.2 e he; omega) ⟨hok.src, hok.coin⟩
              have BZ := Lib.hid (Mem.Blk.new wr 72 #[.string x.src, .string x.dst, .string x.coin, .int .i64 x.amt])
              clear hx hok hjt hal HSR hmay
              go_upto_region 12 with (fail)
              have HZB : Hid (wr.heap.size < (wr.alloc (.cells #[.string x.src, .string x.dst, .string x.coin, .int .i64 x.amt] 72)).heap.size) := BZ.out.lt
              generalize wr.heap.size = zb at *
              generalize wr.alloc (.cells #[.string x.src, .string x.dst, .string x.coin, .int .i64 x.amt] 72) = w3 at *
              clear u0 u1 u2 u3
              have z0 : w3.cell? ⟨zb, 0, none⟩ = some (.string x.src) := BZ.out.cell 0
              have z1 : w3.cell? ⟨zb, 1, none⟩ = some (.string x.dst) := BZ.out.cell 1
              have z2 : w3.cell? ⟨zb, 2, none⟩ = some (.string x.coin) := BZ.out.cell 2
              have z3 : w3.cell? ⟨zb, 3, none⟩ = some (.int .i64 x.amt) := BZ.out.cell 3
              go_wp2_with fail
              go_at_call 36
              (with_reducible refine HPU.out.mono ?_)
              rintro y w4 ⟨⟨v4, es4, rfl, he4, hp4⟩, b4, o4⟩
              have hlc := hp4.next HG.out.ls HG.out.co (show I64 (-x.amt) by have := HAM.out; unfold I64; omega)
              obtain ⟨va4, vc4, rfl⟩ := own_slice he4.row
              have BZ4 := Lib.hid (o4 _ _ _ BZ.out (by decide) (by decide))
              have HB4 := Lib.hid (HBA.out.trans b4)
              have HE4 := Lib.hid he4
              have HLC := Lib.hid hlc
              have HLN4 : Hid (es4.length ≤ 900000 ∧ ∀ e ∈ es4, e.all.length ≤ 900000) := by
                have h1 := HLC.out.1.len
                rw [List.length_append, List.length_append, conA_len, conM_len, List.length_take, List.length_singleton] at h1
                have h2 := HLB.out
                have h3 := HLL.out
                have h4 := HMB.out
                have h5 := HML.out
                exact ⟨by omega, fun e he => by have := h1.2 e he; omega⟩
              have HPU2 : Hid (Calls Try.prog 36 #[.slice va4 es4.length vc4, .agg #[.string x.dst, .string x.coin, .int .i64 x.amt]] _ _) := put_any w.heap.size _ es4 ⟨x.dst, x.coin, x.amt⟩ w4 HE4.out HB4.out.size HLN4.out.1 HLN4.out.2 ⟨HOK.out.dst, HOK.out.coin⟩
              clear he4 hp4 b4 o4 hlc HPU HEA HBA HG HLN HLN4 z0 z1 z2 z3 BZ hneg
              have z0 : w4.cell? ⟨zb, 0, none⟩ = some (.string x.src) := BZ4.out.cell 0
              have z1 : w4.cell? ⟨zb, 1, none⟩ = some (.string x.dst) := BZ4.out.cell 1
              have z2 : w4.cell? ⟨zb, 2, none⟩ = some (.string x.coin) := BZ4.out.cell 2
              have z3 : w4.cell? ⟨zb, 3, none⟩ = some (.int .i64 x.amt) := BZ4.out.cell 3
              go_wp2_with fail
              go_at_call 36
              (with_reducible refine HPU2.out.mono ?_)
              rintro y w5 ⟨⟨v5, es6, rfl, he5, hp5⟩, b5, -⟩
              have hlc := hp5.next HLC.out.1 HLC.out.2 HOK.out.amt
              obtain ⟨va6, vc6, rfl⟩ := own_slice he5.row
              have HG5 : Hid (GaSt w w5 (.slice va6 es6.length vc6) es6 (conA l ++ conM (m.take (j + 1)))) := by
                have e : conA l ++ conM (m.take (j + 1)) = conA l ++ conM (m.take j) ++ [(x.kf, -x.amt)] ++ [(x.kt, x.amt)] := by
                  rw [conM_take HX.out, List.append_assoc, List.append_assoc, List.append_assoc]
                show GaSt _ _ _ _ _
                rw [e]
                exact ⟨he5, hlc.1, hlc.2, HB4.out.trans b5⟩
              clear he5 hp5 b5 hlc HPU2 HE4 HB4 HLC z0 z1 z2 z3 BZ4
              go_wp2_with fail
              go_roundw
              case rel => exact ⟨j + 1, es6, va6, vc6, rfl, by go_num, by have := HJL.out; omega, HG5.out⟩
              case measure => simp [intOf]; have := HJL.out; omega
            · have hjt' : ¬ (j : Int) < (ml : Int) := by omega
              have hke : m.take j = m := List.take_of_length_le (by rw [HML.out]; omega)
              rw [hke] at HG
              clear hke hjt
              have HPO := Lib.hid (PostOut.of HG.out.ls HG.out.co)
              have HFI := Lib.hid HG.out.ls.fit
              have HLS := Lib.hid HG.out.ls
              have HEL : Hid (es5.length ≤ 900000 ∧ ∀ e ∈ es5, e.all.length ≤ 900000) := by
                have h1 := HG.out.ls.len
                rw [List.length_append, conA_len, conM_len] at h1
                have h2 := HLB.out
                have h3 := HLL.out
                have h4 := HMB.out
                have h5 := HML.out
                exact ⟨by omega, fun e he => by have := h1.2 e he; omega⟩
              have ht0 : outA (es5.take 0) = [] := by rw [List.take_zero]; rfl
              have HQ0 : Hid ((outA (es5.take 0)).length = 0 ∧ OuSt w wr (.slice va5 es5.length vc5) es5 (.slice none 0 0) 0) := by
                refine ⟨by rw [ht0]; rfl, ⟨HG.out.en, HG.out.bel, ?_, fun j e h => absurd h (Nat.not_lt_zero _)⟩⟩
                rw [ht0]
                exact World.ownsRow_nil _ _ _ _
              clear ht0 HG
              go_upto_region 16 with (fail)
              go_wp2_with fail
              go_loopw [11, 61] (fun v i wr => ∃ (k : Nat) (oa : Option Addr) (oc : Nat), v = .slice oa (outA (es5.take k)).length oc ∧ i = .int .i64 (k : Nat) ∧ k ≤ es5.length ∧ Hid (OuSt w wr (.slice va5 es5.length vc5) es5 (.slice oa (outA (es5.take k)).length oc) k)) (fun _ i _ => es5.length - (intOf i).toNat)
              case atStart => exact ⟨0, none, 0, by rw [HQ0.out.1], rfl, Nat.zero_le _, by show OuSt _ _ _ _ _ _; rw [HQ0.out.1]; exact HQ0.out.2⟩
              case round =>
                clear HQ0
                obtain ⟨k, oa, oc, rfl, rfl, hk, HQ⟩ := hrel
                by_cases hkt : k < es5.length
                · have hkt' : (k : Int) < (es5.length : Int) := by omega
                  have k0 : (0 : Int) ≤ (k : Int) := by omega
                  have k1 : (k : Int) ≤ 900000 := by have := HEL.out.1; omega
                  obtain ⟨g, cap, e, hv, he, c0, c1, c2, c3, -⟩ := HQ.out.en.at k hkt
                  injection hv with hv1 _ hv3
                  subst hv1
                  subst hv3
                  obtain ⟨aa, ac, hav⟩ := own_slice (HQ.out.en.each k e he)
                  rw [hav] at c3
                  have hal := (Below.refl wr.heap.size wr).alloc (Nat.le_refl _) (.cells #[.string e.party, .string e.coin, .int .i64 0, .slice aa e.all.length ac] 79)
                  have HE := Lib.hid he
                  have HKL := Lib.hid hkt
                  have HFT := Lib.hid HQ.out.fit
                  have HEA := Lib.hid (HQ.out.en.below hal)
                  have HOA := Lib.hid (own_below HQ.out.out hal)
                  have HBA := Lib.hid (HQ.out.bel.trans (hal.mono HQ.out.bel.size))
                  have BZ := Lib.hid (Mem.Blk.new wr 79 #[.string e.party, .string e.coin, .int .i64 0, .slice aa e.all.length ac])
                  have HIN := Lib.hid (sum_any e.all aa e.all.length ac _ (HEA.out.ints HLS.out he hav) (by have := HEL.out.2 e (List.mem_of_getElem? he); omega))
                  clear he hkt hal hav HQ
                  go_upto_region 19 with (fail)
                  generalize wr.heap.size = zb at *
                  generalize wr.alloc (.cells #[.string e.party, .string e.coin, .int .i64 0, .slice aa e.all.length ac] 79) = w3 at *
                  clear c0 c1 c2 c3
                  have z0 : w3.cell? ⟨zb, 0, none⟩ = some (.string e.party) := BZ.out.cell 0
                  have z1 : w3.cell? ⟨zb, 1, none⟩ = some (.string e.coin) := BZ.out.cell 1
                  have z3 : w3.cell? ⟨zb, 3, none⟩ = some (.slice aa e.all.length ac) := BZ.out.cell 3
                  go_wp2_with fail
                  go_at_call 37
                  (with_reducible refine HIN.out.mono ?_)
                  rintro y w4 ⟨rfl, rfl⟩
                  clear HIN
                  obtain ⟨n, hn⟩ : ∃ n, n = e.all.sum := ⟨_, rfl⟩
                  rw [← hn]
                  have HNS := Lib.hid hn
                  cases hf : fits64 n with
                  | false =>
                    have HV : Hid (Verd l m [] 2) := .inr ⟨HRR.out, HMM.out, .inl ⟨rfl, rfl, fun h => by
                      have h1 := HFI.out.1 h e (List.mem_of_getElem? HE.out)
                      rw [← hn, hf] at h1; cases h1⟩⟩
                    clear hf hn
                    go_wp2_with fail
                    go_ret2
                    exact ⟨HPR.out _ _ HV.out, HBA.out⟩
                  | true =>
                    have HF := Lib.hid hf
                    rw [if_pos rfl]
                    by_cases hz : n = 0
                    · have hz' : (n == 0) = true := by simpa using hz
                      have hT : outA (es5.take (k + 1)) = outA (es5.take k) := by rw [outA_take HE.out, ← hn, if_pos hz, List.append_nil]
                      have HQ1 : Hid (Value.slice oa (outA (es5.take k)).length oc = Value.slice oa (outA (es5.take (k + 1))).length oc ∧ OuSt w w3 (.slice (some ⟨g, 0, none⟩) es5.length vc5) es5 (.slice oa (outA (es5.take (k + 1))).length oc) (k + 1)) := by
                        show _ ∧ _
                        rw [hT]
                        refine ⟨rfl, ⟨HEA.out, HBA.out, by rw [hT]; exact HOA.out, fun j f hj hjf => ?_⟩⟩
                        rcases Nat.lt_succ_iff_lt_or_eq.1 hj with h | h
                        · exact HFT.out j f h hjf
                        · rw [h, HE.out] at hjf
                          injection hjf with hjf
                          rw [← hjf, ← hn]; exact HF.out
                      subst hz
                      clear hT hn hf hz' HNS
                      go_wp2_with fail
                      go_roundw
                      case rel => exact ⟨k + 1, oa, oc, HQ1.out.1, by go_num, by have := HKL.out; omega, HQ1.out.2⟩
                      case measure => simp [intOf]; have := HKL.out; omega
                    · have hz' : (n == 0) = false := by simpa using hz
                      have hT : outA (es5.take (k + 1)) = outA (es5.take k) ++ [⟨e.party, e.coin, n⟩] := by rw [outA_take HE.out, ← hn, if_neg hz]
                      have HT := Lib.hid hT
                      have HOL : Hid ((outA (es5.take k)).length + 1 ≤ maxLen ∧ ((outA (es5.take k)).length + 1) * 40 ≤ 140737488355328 ∧ w.heap.size ≤ w3.heap.size) := by
                        have hmx : maxLen = 9223372036854775807 := by decide
                        have h1 := outA_len (es5.take k)
                        rw [List.length_take] at h1
                        have h2 := HEL.out.1
                        exact ⟨by omega, by omega, HBA.out.size⟩
                      clear hT hn hf hz
                      have hal := (Below.refl w3.heap.size w3).alloc (Nat.le_refl _) (.cells #[.string e.party, .string e.coin, .int .i64 n] 51)
                      have HEB := Lib.hid (HEA.out.below hal)
                      have HOB := Lib.hid (own_below HOA.out hal)
                      have HBB := Lib.hid (HBA.out.trans (hal.mono HBA.out.size))
                      have HSB : Hid (w.heap.size ≤ (w3.alloc (.cells #[.string e.party, .string e.coin, .int .i64 n] 51)).heap.size) := HBB.out.size
                      clear hal
                      go_upto_region 24 with (at_builtin; refine ap_row infoA Try.underlying26 rfl (by decide) rfl (.tmp 75) (.tmp 84) rfl rfl HOB.out HSB.out ⟨w3.heap.size, 0, none⟩ 1 1 [.string e.party, .string e.coin, .int .i64 n] rfl rfl (lit_cells_at w3 #[.string e.party, .string e.coin, .int .i64 n] 51 _ rfl) (by simp [Value.oneCell']) HOL.out.1 HOL.out.2.1 ?_; intro v1 w5 o1 g1 hv1; have HO5 := Lib.hid o1; have HG5 := Lib.hid g1; clear o1 g1 hv1)
                      have HQ1 : Hid (∃ a5 c5, v1 = Value.slice a5 (outA (es5.take (k + 1))).length c5 ∧ OuSt w w5 (.slice (some ⟨g, 0, none⟩) es5.length vc5) es5 (.slice a5 (outA (es5.take (k + 1))).length c5) (k + 1)) := by
                        have ho := HO5.out
                        obtain ⟨a5, c5, rfl⟩ := own_slice ho
                        have hlen : (outA (es5.take (k + 1))).length = (outA (es5.take k)).length + 1 := by rw [HT.out, List.length_append]; rfl
                        refine ⟨a5, c5, by rw [hlen], ⟨HEB.out.grown HOB.out (by decide) (by decide) HG5.out, HBB.out.grown HG5.out HSB.out (fun b hb => (own_lt HOB.out hb).1), ?_, fun j f hj hjf => ?_⟩⟩
                        · rw [hlen, HT.out, outR_append, outR_one]; exact ho
                        · rcases Nat.lt_succ_iff_lt_or_eq.1 hj with h | h
                          · exact HFT.out j f h hjf
                          · rw [h, HE.out] at hjf
                            injection hjf with hjf
                            rw [← hjf, ← HNS.out]; exact HF.out
                      obtain ⟨a5, c5, rfl, HQ5⟩ : ∃ a5 c5, v1 = Value.slice a5 (outA (es5.take (k + 1))).length c5 ∧ Hid (OuSt w w5 (.slice (some ⟨g, 0, none⟩) es5.length vc5) es5 (.slice a5 (outA (es5.take (k + 1))).length c5) (k + 1)) := HQ1.out
                      clear HQ1 HO5 HG5 HEB HOB HBB HSB z0 z1 z3 hz'
                      go_wp2_with fail
                      go_roundw
                      case rel => exact ⟨k + 1, a5, c5, rfl, by go_num, by have := HKL.out; omega, HQ5.out⟩
                      case measure => simp [intOf]; have := HKL.out; omega
                · have hkt' : ¬ (k : Int) < (es5.length : Int) := by omega
                  have hke : es5.take k = es5 := List.take_of_length_le (by omega)
                  rw [hke] at HQ ⊢
                  have HEND : Hid (∃ a c, Value.slice oa (outA es5).length oc = .slice a (outA es5).length c ∧ SlR acctK wr [] (outA es5) a (outA es5).length c) := by
                    have ho := HQ.out.out
                    rw [hke] at ho
                    refine outR_slR ho HQ.out.bel (fun a ha => ?_)
                    unfold outA at ha
                    rw [List.mem_filterMap] at ha
                    obtain ⟨e, he, hea⟩ := ha
                    obtain ⟨j, hj, hje⟩ := List.mem_iff_getElem.1 he
                    have hje' : es5[j]? = some e := by rw [List.getElem?_eq_getElem hj, hje]
                    have hft := HQ.out.fit j e (by have := hkt; omega) hje'
                    split at hea
                    · cases hea
                    · injection hea with hea
                      subst hea
                      have hs := HQ.out.en.siz e he
                      exact ⟨hs.1, hs.2, by unfold fits64 at hft; simp only [Bool.and_eq_true, decide_eq_true_iff] at hft; unfold I64; show _ ≤ e.all.sum ∧ e.all.sum ≤ _; omega⟩
                  have HV : Hid (Verd l m (outA es5) 0) := .inr ⟨HRR.out, HMM.out, .inr ⟨rfl, HFI.out.2 (fun e he => by
                    obtain ⟨j, hj, hje⟩ := List.mem_iff_getElem.1 he
                    exact HQ.out.fit j e (by have := hkt; omega) (by rw [List.getElem?_eq_getElem hj, hje])), HPO.out⟩⟩
                  have HBE := Lib.hid HQ.out.bel
                  have HLO : Hid ((outA es5).length ≤ l.length + 2 * m.length) := by
                    have h1 := HLS.out.len.1
                    rw [List.length_append, conA_len, conM_len] at h1
                    have h2 := outA_len es5
                    show _ ≤ _; omega
                  clear HQ hke hkt
                  go_wp2_with fail
                  go_ret2
                  refine ⟨?_, HBE.out⟩
                  obtain ⟨a, c, hac, hs⟩ := HEND.out
                  exact ⟨outA es5, a, c, 0, by rw [hac]; rfl, hs, HV.out, HLO.out⟩
end Go.Proofs.Ytgbiimoednmlgaa

/- The law's own turnings of accounts, of moves. -/
namespace Go.Proofs.Ytgbiimoednmlgaa
set_option linter.unusedVariables false
set_option linter.unusedSimpArgs false
open Go.RowKit
theorem infoRA : (Try.prog.info? 58).map (fun i => (i.zero, i.size, i.bytes)) = some (some (.agg #[.string ⟨#[]⟩, .string ⟨#[]⟩, .int .i64 0]), 3, 40) := by kernel_rfl
theorem infoMv : (Try.prog.info? 72).map (fun i => (i.zero, i.size, i.bytes)) = some (some (.agg #[.string ⟨#[]⟩, .string ⟨#[]⟩, .string ⟨#[]⟩, .int .i64 0]), 4, 56) := by kernel_rfl
theorem infoRM : (Try.prog.info? 40).map (fun i => (i.zero, i.size, i.bytes)) = some (some (.agg #[.string ⟨#[]⟩, .string ⟨#[]⟩, .string ⟨#[]⟩, .int .i64 0]), 4, 56) := by kernel_rfl
def outM (l : List Mv) : List Value := (l.map mvC).flatten
theorem outM_append (a b : List Mv) : outM (a ++ b) = outM a ++ outM b := by unfold outM; rw [List.map_append, List.flatten_append]
theorem outM_one (a : Mv) : outM [a] = mvC a := by unfold outM; simp
theorem outR_any {t : TypeId} {w0 w : World} {v : Value} {l : List Acct} (h : w.ownsRow w0.heap.size t 3 v l.length (outR l)) (hb : Below w0.heap.size w0 w) (hok : ∀ a ∈ l, AcctOk a) : ∃ a c, v = .slice a l.length c ∧ SlR acctK w [] l a l.length c := by
  obtain ⟨a, c, rfl, hsl, -⟩ := own_sl (w0 := w0) (X := []) ⟨hb, h⟩ (by rw [List.length_map]) (fun c hc => by obtain ⟨s, _, rfl⟩ := List.mem_map.1 hc; rfl) (fun b hb => by cases hb)
  refine ⟨a, c, rfl, ⟨l.map acctC, by rw [List.length_map], fun i x cs hx hc => ?_, hsl⟩⟩
  rw [List.getElem?_map, hx] at hc
  injection hc with hc
  exact ⟨hc.symm, hok x (List.mem_of_getElem? hx)⟩
theorem outM_any {t : TypeId} {w0 w : World} {v : Value} {l : List Mv} (h : w.ownsRow w0.heap.size t 4 v l.length (outM l)) (hb : Below w0.heap.size w0 w) (hok : ∀ a ∈ l, MvOk a) : ∃ a c, v = .slice a l.length c ∧ SlR mvK w [] l a l.length c := by
  obtain ⟨a, c, rfl, hsl, -⟩ := own_sl (w0 := w0) (X := []) ⟨hb, h⟩ (by rw [List.length_map]) (fun c hc => by obtain ⟨s, _, rfl⟩ := List.mem_map.1 hc; rfl) (fun b hb => by cases hb)
  refine ⟨a, c, rfl, ⟨l.map mvC, by rw [List.length_map], fun i x cs hx hc => ?_, hsl⟩⟩
  rw [List.getElem?_map, hx] at hc
  injection hc with hc
  exact ⟨hc.symm, hok x (List.mem_of_getElem? hx)⟩
theorem acct_ok {w : World} {X : List Nat} {l : List Acct} {a : Option Addr} {len cap : Nat} (h : SlR acctK w X l a len cap) : ∀ x ∈ l, AcctOk x := by
  intro x hx
  obtain ⟨k, hk⟩ := List.getElem?_of_mem hx
  have hl := (List.getElem?_eq_some_iff.1 hk).1
  rw [h.facts.1] at hl
  obtain ⟨b, o, y, -, hy, hok, -⟩ := acct_at h k hl
  rw [hk] at hy
  injection hy with hy
  rw [hy]; exact hok
theorem mv_ok {w : World} {X : List Nat} {l : List Mv} {a : Option Addr} {len cap : Nat} (h : SlR mvK w X l a len cap) : ∀ x ∈ l, MvOk x := by
  intro x hx
  obtain ⟨k, hk⟩ := List.getElem?_of_mem hx
  have hl := (List.getElem?_eq_some_iff.1 hk).1
  rw [h.facts.1] at hl
  obtain ⟨b, o, y, -, hy, hok, -⟩ := mv_at h k hl
  rw [hk] at hy
  injection hy with hy
  rw [hy]; exact hok
set_option maxRecDepth 100000 in
set_option maxHeartbeats 4000000 in
theorem books_any (l : List Acct) (a : Option Addr) (len cap : Nat) (w : World) (h : SlR acctK w [] l a len cap) (hlen : len ≤ 100000) :
    Calls Try.prog 10 #[.slice a len cap] w fun y w' => (∃ a' c', y = .returned (.slice a' len c') ∧ SlR acctK w' [] l a' len c') ∧ Below w.heap.size w w' := by
  have HS := Lib.hid h
  have HL := Lib.hid h.facts.1
  have HN := Lib.hid hlen
  have HOK := Lib.hid (acct_ok h)
  clear h hlen
  go_enter Try.func10, Try.ntmps10
  go_wp2_with fail
  go_loopw [3, 4] (fun v i wr => ∃ (k : Nat) (oa : Option Addr) (oc : Nat), v = .slice oa k oc ∧ i = .int .i64 (k : Nat) ∧ k ≤ len ∧ Hid (wr.ownsRow w.heap.size 51 3 (.slice oa k oc) k (outR (l.take k)) ∧ Below w.heap.size w wr)) (fun _ i _ => len - (intOf i).toNat)
  case atStart => exact ⟨0, none, 0, rfl, rfl, Nat.zero_le _, by rw [List.take_zero]; exact World.ownsRow_nil _ _ _ _, Below.refl _ _⟩
  case round =>
    obtain ⟨k, oa, oc, rfl, rfl, hk, HR⟩ := hrel
    by_cases hlt : k < len
    · have hlt' : (k : Int) < (len : Int) := by omega
      have i0 : (0 : Int) ≤ (k : Int) := by omega
      have i1 : (k : Int) ≤ 100000 := by have := HN.out; omega
      have HSR := Lib.hid (HS.out.kept (Kept.of_below HR.out.2 []))
      obtain ⟨b, o, x, rfl, hx, -, u0, u1, u2⟩ := acct_at HSR.out k hlt
      have HX : Hid (l.take (k + 1) = l.take k ++ [x]) := by
        obtain ⟨hk1, e1⟩ := List.getElem?_eq_some_iff.1 hx
        show _ = _
        rw [← List.take_append_getElem hk1, e1]
      have hal := (Below.refl wr.heap.size wr).alloc (Nat.le_refl _) (.cells #[.string x.party, .string x.coin, .int .i64 x.amt] 51)
      have HO2 := Lib.hid (own_below HR.out.1 hal)
      have HB2 := Lib.hid (HR.out.2.trans (hal.mono HR.out.2.size))
      have HSB : Hid (w.heap.size ≤ (wr.alloc (.cells #[.string x.party, .string x.coin, .int .i64 x.amt] 51)).heap.size) := HB2.out.size
      have HM : Hid (k + 1 ≤ maxLen ∧ (k + 1) * 40 ≤ 140737488355328) := by
        have hmx : maxLen = 9223372036854775807 := by decide
        exact ⟨by omega, by omega⟩
      have HKL := Lib.hid hlt
      clear hal hx HSR HR hlt
      go_wp2_with (at_builtin; refine ap_row infoA Try.underlying26 rfl (by decide) rfl (.tmp 11) (.tmp 16) rfl rfl HO2.out HSB.out ⟨wr.heap.size, 0, none⟩ 1 1 [.string x.party, .string x.coin, .int .i64 x.amt] rfl rfl (lit_cells_at wr #[.string x.party, .string x.coin, .int .i64 x.amt] 51 _ rfl) (by simp [Value.oneCell']) HM.out.1 HM.out.2 ?_; intro v3 w3 o1 g1 hv1; have HO3 := Lib.hid o1; have HG3 := Lib.hid g1; clear o1 g1 hv1)
      have HB3 := Lib.hid (HB2.out.grown HG3.out HB2.out.size (fun b hb => (own_lt HO2.out hb).1))
      obtain ⟨a', c', rfl⟩ := own_slice HO3.out
      have HR3 : Hid (w3.ownsRow w.heap.size 51 3 (.slice a' (k + 1) c') (k + 1) (outR (l.take (k + 1))) ∧ Below w.heap.size w w3) := by
        refine ⟨?_, HB3.out⟩
        rw [HX.out, outR_append, outR_one]
        exact HO3.out
      clear HO3 HO2 HB2 HG3 HB3 HX HSB
      go_roundw
      case rel => exact ⟨k + 1, a', c', rfl, by go_num, by have := HKL.out; omega, HR3.out⟩
      case measure => simp [intOf]; have := HKL.out; omega
    · have hlt' : ¬ (k : Int) < (len : Int) := by omega
      obtain rfl : k = len := by omega
      have HEND : Hid ((∃ a c, Value.slice oa k oc = .slice a k c ∧ SlR acctK wr [] l a k c) ∧ Below w.heap.size w wr) := by
        refine ⟨?_, HR.out.2⟩
        have ho := HR.out.1
        have hke : l.take k = l := List.take_of_length_le (by rw [HL.out]; omega)
        have hkl := HL.out
        rw [hke] at ho
        subst hkl
        exact outR_any ho HR.out.2 HOK.out
      clear HR hlt hk
      go_wp2_with fail
      go_ret
      obtain ⟨⟨a, c, hac, hs⟩, hb⟩ := HEND.out
      exact ⟨⟨a, c, by rw [hac]; rfl, hs⟩, hb⟩
set_option maxRecDepth 100000 in
set_option maxHeartbeats 4000000 in
theorem told_any (l : List Acct) (a : Option Addr) (len cap : Nat) (w : World) (h : SlR acctK w [] l a len cap) (hlen : len ≤ 100000) :
    Calls Try.prog 14 #[.slice a len cap] w fun y w' => (∃ a' c', y = .returned (.slice a' len c') ∧ SlR acctK w' [] l a' len c') ∧ Below w.heap.size w w' := by
  have HS := Lib.hid h
  have HL := Lib.hid h.facts.1
  have HN := Lib.hid hlen
  have HOK := Lib.hid (acct_ok h)
  clear h hlen
  go_enter Try.func14, Try.ntmps14
  go_wp2_with fail
  go_loopw [3, 4] (fun v i wr => ∃ (k : Nat) (oa : Option Addr) (oc : Nat), v = .slice oa k oc ∧ i = .int .i64 (k : Nat) ∧ k ≤ len ∧ Hid (wr.ownsRow w.heap.size 58 3 (.slice oa k oc) k (outR (l.take k)) ∧ Below w.heap.size w wr)) (fun _ i _ => len - (intOf i).toNat)
  case atStart => exact ⟨0, none, 0, rfl, rfl, Nat.zero_le _, by rw [List.take_zero]; exact World.ownsRow_nil _ _ _ _, Below.refl _ _⟩
  case round =>
    obtain ⟨k, oa, oc, rfl, rfl, hk, HR⟩ := hrel
    by_cases hlt : k < len
    · have hlt' : (k : Int) < (len : Int) := by omega
      have i0 : (0 : Int) ≤ (k : Int) := by omega
      have i1 : (k : Int) ≤ 100000 := by have := HN.out; omega
      have HSR := Lib.hid (HS.out.kept (Kept.of_below HR.out.2 []))
      obtain ⟨b, o, x, rfl, hx, -, u0, u1, u2⟩ := acct_at HSR.out k hlt
      have HX : Hid (l.take (k + 1) = l.take k ++ [x]) := by
        obtain ⟨hk1, e1⟩ := List.getElem?_eq_some_iff.1 hx
        show _ = _
        rw [← List.take_append_getElem hk1, e1]
      have hal := (Below.refl wr.heap.size wr).alloc (Nat.le_refl _) (.cells #[.string x.party, .string x.coin, .int .i64 x.amt] 58)
      have HO2 := Lib.hid (own_below HR.out.1 hal)
      have HB2 := Lib.hid (HR.out.2.trans (hal.mono HR.out.2.size))
      have HSB : Hid (w.heap.size ≤ (wr.alloc (.cells #[.string x.party, .string x.coin, .int .i64 x.amt] 58)).heap.size) := HB2.out.size
      have HM : Hid (k + 1 ≤ maxLen ∧ (k + 1) * 40 ≤ 140737488355328) := by
        have hmx : maxLen = 9223372036854775807 := by decide
        exact ⟨by omega, by omega⟩
      have HKL := Lib.hid hlt
      clear hal hx HSR HR hlt
      go_wp2_with (at_builtin; refine ap_row infoRA Try.underlying22 rfl (by decide) rfl (.tmp 11) (.tmp 16) rfl rfl HO2.out HSB.out ⟨wr.heap.size, 0, none⟩ 1 1 [.string x.party, .string x.coin, .int .i64 x.amt] rfl rfl (lit_cells_at wr #[.string x.party, .string x.coin, .int .i64 x.amt] 58 _ rfl) (by simp [Value.oneCell']) HM.out.1 HM.out.2 ?_; intro v3 w3 o1 g1 hv1; have HO3 := Lib.hid o1; have HG3 := Lib.hid g1; clear o1 g1 hv1)
      have HB3 := Lib.hid (HB2.out.grown HG3.out HB2.out.size (fun b hb => (own_lt HO2.out hb).1))
      obtain ⟨a', c', rfl⟩ := own_slice HO3.out
      have HR3 : Hid (w3.ownsRow w.heap.size 58 3 (.slice a' (k + 1) c') (k + 1) (outR (l.take (k + 1))) ∧ Below w.heap.size w w3) := by
        refine ⟨?_, HB3.out⟩
        rw [HX.out, outR_append, outR_one]
        exact HO3.out
      clear HO3 HO2 HB2 HG3 HB3 HX HSB
      go_roundw
      case rel => exact ⟨k + 1, a', c', rfl, by go_num, by have := HKL.out; omega, HR3.out⟩
      case measure => simp [intOf]; have := HKL.out; omega
    · have hlt' : ¬ (k : Int) < (len : Int) := by omega
      obtain rfl : k = len := by omega
      have HEND : Hid ((∃ a c, Value.slice oa k oc = .slice a k c ∧ SlR acctK wr [] l a k c) ∧ Below w.heap.size w wr) := by
        refine ⟨?_, HR.out.2⟩
        have ho := HR.out.1
        have hke : l.take k = l := List.take_of_length_le (by rw [HL.out]; omega)
        have hkl := HL.out
        rw [hke] at ho
        subst hkl
        exact outR_any ho HR.out.2 HOK.out
      clear HR hlt hk
      go_wp2_with fail
      go_ret
      obtain ⟨⟨a, c, hac, hs⟩, hb⟩ := HEND.out
      exact ⟨⟨a, c, by rw [hac]; rfl, hs⟩, hb⟩
set_option maxRecDepth 100000 in
set_option maxHeartbeats 4000000 in
theorem moves_any (l : List Mv) (a : Option Addr) (len cap : Nat) (w : World) (h : SlR mvK w [] l a len cap) (hlen : len ≤ 100000) :
    Calls Try.prog 11 #[.slice a len cap] w fun y w' => (∃ a' c', y = .returned (.slice a' len c') ∧ SlR mvK w' [] l a' len c') ∧ Below w.heap.size w w' := by
  have HS := Lib.hid h
  have HL := Lib.hid h.facts.1
  have HN := Lib.hid hlen
  have HOK := Lib.hid (mv_ok h)
  clear h hlen
  go_enter Try.func11, Try.ntmps11
  go_wp2_with fail
  go_loopw [3, 4] (fun v i wr => ∃ (k : Nat) (oa : Option Addr) (oc : Nat), v = .slice oa k oc ∧ i = .int .i64 (k : Nat) ∧ k ≤ len ∧ Hid (wr.ownsRow w.heap.size 72 4 (.slice oa k oc) k (outM (l.take k)) ∧ Below w.heap.size w wr)) (fun _ i _ => len - (intOf i).toNat)
  case atStart => exact ⟨0, none, 0, rfl, rfl, Nat.zero_le _, by rw [List.take_zero]; exact World.ownsRow_nil _ _ _ _, Below.refl _ _⟩
  case round =>
    obtain ⟨k, oa, oc, rfl, rfl, hk, HR⟩ := hrel
    by_cases hlt : k < len
    · have hlt' : (k : Int) < (len : Int) := by omega
      have i0 : (0 : Int) ≤ (k : Int) := by omega
      have i1 : (k : Int) ≤ 100000 := by have := HN.out; omega
      have HSR := Lib.hid (HS.out.kept (Kept.of_below HR.out.2 []))
      obtain ⟨b, o, x, rfl, hx, -, u0, u1, u2, u3⟩ := mv_at HSR.out k hlt
      have HX : Hid (l.take (k + 1) = l.take k ++ [x]) := by
        obtain ⟨hk1, e1⟩ := List.getElem?_eq_some_iff.1 hx
        show _ = _
        rw [← List.take_append_getElem hk1, e1]
      have hal := (Below.refl wr.heap.size wr).alloc (Nat.le_refl _) (.cells #[.string x.src, .string x.dst, .string x.coin, .int .i64 x.amt] 72)
      have HO2 := Lib.hid (own_below HR.out.1 hal)
      have HB2 := Lib.hid (HR.out.2.trans (hal.mono HR.out.2.size))
      have HSB : Hid (w.heap.size ≤ (wr.alloc (.cells #[.string x.src, .string x.dst, .string x.coin, .int .i64 x.amt] 72)).heap.size) := HB2.out.size
      have HM : Hid (k + 1 ≤ maxLen ∧ (k + 1) * 56 ≤ 140737488355328) := by
        have hmx : maxLen = 9223372036854775807 := by decide
        exact ⟨by omega, by omega⟩
      have HKL := Lib.hid hlt
      clear hal hx HSR HR hlt
      go_wp2_with (at_builtin; refine ap_row infoMv Try.underlying28 rfl (by decide) rfl (.tmp 11) (.tmp 16) rfl rfl HO2.out HSB.out ⟨wr.heap.size, 0, none⟩ 1 1 [.string x.src, .string x.dst, .string x.coin, .int .i64 x.amt] rfl rfl (lit_cells_at wr #[.string x.src, .string x.dst, .string x.coin, .int .i64 x.amt] 72 _ rfl) (by simp [Value.oneCell']) HM.out.1 HM.out.2 ?_; intro v3 w3 o1 g1 hv1; have HO3 := Lib.hid o1; have HG3 := Lib.hid g1; clear o1 g1 hv1)
      have HB3 := Lib.hid (HB2.out.grown HG3.out HB2.out.size (fun b hb => (own_lt HO2.out hb).1))
      obtain ⟨a', c', rfl⟩ := own_slice HO3.out
      have HR3 : Hid (w3.ownsRow w.heap.size 72 4 (.slice a' (k + 1) c') (k + 1) (outM (l.take (k + 1))) ∧ Below w.heap.size w w3) := by
        refine ⟨?_, HB3.out⟩
        rw [HX.out, outM_append, outM_one]
        exact HO3.out
      clear HO3 HO2 HB2 HG3 HB3 HX HSB
      go_roundw
      case rel => exact ⟨k + 1, a', c', rfl, by go_num, by have := HKL.out; omega, HR3.out⟩
      case measure => simp [intOf]; have := HKL.out; omega
    · have hlt' : ¬ (k : Int) < (len : Int) := by omega
      obtain rfl : k = len := by omega
      have HEND : Hid ((∃ a c, Value.slice oa k oc = .slice a k c ∧ SlR mvK wr [] l a k c) ∧ Below w.heap.size w wr) := by
        refine ⟨?_, HR.out.2⟩
        have ho := HR.out.1
        have hke : l.take k = l := List.take_of_length_le (by rw [HL.out]; omega)
        have hkl := HL.out
        rw [hke] at ho
        subst hkl
        exact outM_any ho HR.out.2 HOK.out
      clear HR hlt hk
      go_wp2_with fail
      go_ret
      obtain ⟨⟨a, c, hac, hs⟩, hb⟩ := HEND.out
      exact ⟨⟨a, c, by rw [hac]; rfl, hs⟩, hb⟩
set_option maxRecDepth 100000 in
set_option maxHeartbeats 4000000 in
theorem back_any (l : List Mv) (a : Option Addr) (len cap : Nat) (w : World) (h : SlR mvK w [] l a len cap) (hlen : len ≤ 100000) :
    Calls Try.prog 16 #[.slice a len cap] w fun y w' => (∃ a' c', y = .returned (.slice a' len c') ∧ SlR mvK w' [] l a' len c') ∧ Below w.heap.size w w' := by
  have HS := Lib.hid h
  have HL := Lib.hid h.facts.1
  have HN := Lib.hid hlen
  have HOK := Lib.hid (mv_ok h)
  clear h hlen
  go_enter Try.func16, Try.ntmps16
  go_wp2_with fail
  go_loopw [3, 4] (fun v i wr => ∃ (k : Nat) (oa : Option Addr) (oc : Nat), v = .slice oa k oc ∧ i = .int .i64 (k : Nat) ∧ k ≤ len ∧ Hid (wr.ownsRow w.heap.size 40 4 (.slice oa k oc) k (outM (l.take k)) ∧ Below w.heap.size w wr)) (fun _ i _ => len - (intOf i).toNat)
  case atStart => exact ⟨0, none, 0, rfl, rfl, Nat.zero_le _, by rw [List.take_zero]; exact World.ownsRow_nil _ _ _ _, Below.refl _ _⟩
  case round =>
    obtain ⟨k, oa, oc, rfl, rfl, hk, HR⟩ := hrel
    by_cases hlt : k < len
    · have hlt' : (k : Int) < (len : Int) := by omega
      have i0 : (0 : Int) ≤ (k : Int) := by omega
      have i1 : (k : Int) ≤ 100000 := by have := HN.out; omega
      have HSR := Lib.hid (HS.out.kept (Kept.of_below HR.out.2 []))
      obtain ⟨b, o, x, rfl, hx, -, u0, u1, u2, u3⟩ := mv_at HSR.out k hlt
      have HX : Hid (l.take (k + 1) = l.take k ++ [x]) := by
        obtain ⟨hk1, e1⟩ := List.getElem?_eq_some_iff.1 hx
        show _ = _
        rw [← List.take_append_getElem hk1, e1]
      have hal := (Below.refl wr.heap.size wr).alloc (Nat.le_refl _) (.cells #[.string x.src, .string x.dst, .string x.coin, .int .i64 x.amt] 40)
      have HO2 := Lib.hid (own_below HR.out.1 hal)
      have HB2 := Lib.hid (HR.out.2.trans (hal.mono HR.out.2.size))
      have HSB : Hid (w.heap.size ≤ (wr.alloc (.cells #[.string x.src, .string x.dst, .string x.coin, .int .i64 x.amt] 40)).heap.size) := HB2.out.size
      have HM : Hid (k + 1 ≤ maxLen ∧ (k + 1) * 56 ≤ 140737488355328) := by
        have hmx : maxLen = 9223372036854775807 := by decide
        exact ⟨by omega, by omega⟩
      have HKL := Lib.hid hlt
      clear hal hx HSR HR hlt
      go_wp2_with (at_builtin; refine ap_row infoRM Try.underlying23 rfl (by decide) rfl (.tmp 11) (.tmp 16) rfl rfl HO2.out HSB.out ⟨wr.heap.size, 0, none⟩ 1 1 [.string x.src, .string x.dst, .string x.coin, .int .i64 x.amt] rfl rfl (lit_cells_at wr #[.string x.src, .string x.dst, .string x.coin, .int .i64 x.amt] 40 _ rfl) (by simp [Value.oneCell']) HM.out.1 HM.out.2 ?_; intro v3 w3 o1 g1 hv1; have HO3 := Lib.hid o1; have HG3 := Lib.hid g1; clear o1 g1 hv1)
      have HB3 := Lib.hid (HB2.out.grown HG3.out HB2.out.size (fun b hb => (own_lt HO2.out hb).1))
      obtain ⟨a', c', rfl⟩ := own_slice HO3.out
      have HR3 : Hid (w3.ownsRow w.heap.size 40 4 (.slice a' (k + 1) c') (k + 1) (outM (l.take (k + 1))) ∧ Below w.heap.size w w3) := by
        refine ⟨?_, HB3.out⟩
        rw [HX.out, outM_append, outM_one]
        exact HO3.out
      clear HO3 HO2 HB2 HG3 HB3 HX HSB
      go_roundw
      case rel => exact ⟨k + 1, a', c', rfl, by go_num, by have := HKL.out; omega, HR3.out⟩
      case measure => simp [intOf]; have := HKL.out; omega
    · have hlt' : ¬ (k : Int) < (len : Int) := by omega
      obtain rfl : k = len := by omega
      have HEND : Hid ((∃ a c, Value.slice oa k oc = .slice a k c ∧ SlR mvK wr [] l a k c) ∧ Below w.heap.size w wr) := by
        refine ⟨?_, HR.out.2⟩
        have ho := HR.out.1
        have hke : l.take k = l := List.take_of_length_le (by rw [HL.out]; omega)
        have hkl := HL.out
        rw [hke] at ho
        subst hkl
        exact outM_any ho HR.out.2 HOK.out
      clear HR hlt hk
      go_wp2_with fail
      go_ret
      obtain ⟨⟨a, c, hac, hs⟩, hb⟩ := HEND.out
      exact ⟨⟨a, c, by rw [hac]; rfl, hs⟩, hb⟩
end Go.Proofs.Ytgbiimoednmlgaa

/- The contract of great. -/
namespace Go.Proofs.Ytgbiimoednmlgaa
set_option linter.unusedVariables false
set_option linter.unusedSimpArgs false
open Go.RowKit
def GrR (x : Ending) (ll ml : Nat) : Prop := ∃ b : Bool, x = .returned (.bool b) ∧ (b = false → ll ≤ 40 ∧ ml ≤ 40)
set_option maxRecDepth 100000 in
set_option maxHeartbeats 4000000 in
theorem great_any (l : List Acct) (m : List Mv) (la : Option Addr) (ll lc : Nat) (ma : Option Addr) (ml mc : Nat) (w : World) (hl : SlR acctK w [] l la ll lc) (hm : SlR mvK w [] m ma ml mc) :
    Calls Try.prog 8 #[.slice la ll lc, .slice ma ml mc] w fun x w' => GrR x ll ml ∧ w' = w := by
  have HS := Lib.hid hl
  have HM := Lib.hid hm
  clear hl hm
  go_enter Try.func8, Try.ntmps8
  by_cases h1 : 40 < ll
  · have h1' : (40 : Int) < (ll : Int) := by omega
    clear h1
    go_wp2_with fail
    go_ret
    exact ⟨⟨true, rfl, fun h => by cases h⟩, rfl⟩
  · have h1' : ¬ (40 : Int) < (ll : Int) := by omega
    have h1d : decide ((40 : Int) < (ll : Int)) = false := decide_eq_false h1'
    have h1n : decide (40 < ll) = false := decide_eq_false h1
    by_cases h2 : 40 < ml
    · have h2' : (40 : Int) < (ml : Int) := by omega
      have h2d : decide ((40 : Int) < (ml : Int)) = true := decide_eq_true h2'
      clear h1 h2
      go_wp2_with fail
      go_ret
      exact ⟨⟨true, rfl, fun h => by cases h⟩, rfl⟩
    · have h2' : ¬ (40 : Int) < (ml : Int) := by omega
      have h2d : decide ((40 : Int) < (ml : Int)) = false := decide_eq_false h2'
      have h2n : decide (40 < ml) = false := decide_eq_false h2
      have HA := Lib.hid h1
      have HB := Lib.hid h2
      clear h1 h2
      go_wp2_with fail
      go_loopw [5] (fun i wr => ∃ (k : Nat), i = .int .i64 (k : Nat) ∧ k ≤ ll ∧ wr = w) (fun i _ => ll - (intOf i).toNat)
      case atStart => exact ⟨0, rfl, Nat.zero_le _, rfl⟩
      case round =>
        obtain ⟨k, rfl, hk, rfl⟩ := hrel
        by_cases hlt : k < ll
        · have hlt' : (k : Int) < (ll : Int) := by omega
          have i0 : (0 : Int) ≤ (k : Int) := by omega
          have i1 : (k : Int) ≤ 40 := by have := HA.out; omega
          obtain ⟨b, o, x, rfl, -, -, u0, u1, u2⟩ := acct_at HS.out k hlt
          have HKL := Lib.hid hlt
          clear hlt
          by_cases g1 : 100 < x.party.size
          · have g1' : (100 : Int) < (x.party.size : Int) := by omega
            have g1d : decide ((100 : Int) < (x.party.size : Int)) = true := decide_eq_true g1'
            clear g1
            go_wp2_with fail
            go_ret
            exact ⟨⟨true, rfl, fun h => by cases h⟩, rfl⟩
          · have g1' : ¬ (100 : Int) < (x.party.size : Int) := by omega
            have g1d : decide ((100 : Int) < (x.party.size : Int)) = false := decide_eq_false g1'
            have g1n : decide (100 < x.party.size) = false := decide_eq_false g1
            clear g1
            by_cases g2 : 100 < x.coin.size
            · have g2' : (100 : Int) < (x.coin.size : Int) := by omega
              have g2d : decide ((100 : Int) < (x.coin.size : Int)) = true := decide_eq_true g2'
              clear g2
              go_wp2_with fail
              go_ret
              exact ⟨⟨true, rfl, fun h => by cases h⟩, rfl⟩
            · have g2' : ¬ (100 : Int) < (x.coin.size : Int) := by omega
              have g2d : decide ((100 : Int) < (x.coin.size : Int)) = false := decide_eq_false g2'
              have g2n : decide (100 < x.coin.size) = false := decide_eq_false g2
              clear g2
              go_wp2_with fail
              go_roundw
              case rel => exact ⟨k + 1, by go_num, by have := HKL.out; omega, trivial⟩
              case measure => simp [intOf]; have := HKL.out; omega
        · have hlt' : ¬ (k : Int) < (ll : Int) := by omega
          clear hlt
          go_wp2_with fail
          go_loopw [6] (fun i wr2 => ∃ (k : Nat), i = .int .i64 (k : Nat) ∧ k ≤ ml ∧ wr2 = wr) (fun i _ => ml - (intOf i).toNat)
          case atStart => exact ⟨0, rfl, Nat.zero_le _, rfl⟩
          case round =>
            obtain ⟨j, rfl, hj, rfl⟩ := hrel
            by_cases hjt : j < ml
            · have hjt' : (j : Int) < (ml : Int) := by omega
              have j0 : (0 : Int) ≤ (j : Int) := by omega
              have j1 : (j : Int) ≤ 40 := by have := HB.out; omega
              obtain ⟨b, o, x, rfl, -, -, u0, u1, u2, u3⟩ := mv_at HM.out j hjt
              have HJL := Lib.hid hjt
              clear hjt
              by_cases g1 : 100 < x.src.size
              · have g1' : (100 : Int) < (x.src.size : Int) := by omega
                have g1d : decide ((100 : Int) < (x.src.size : Int)) = true := decide_eq_true g1'
                clear g1
                go_wp2_with fail
                go_ret
                exact ⟨⟨true, rfl, fun h => by cases h⟩, rfl⟩
              · have g1' : ¬ (100 : Int) < (x.src.size : Int) := by omega
                have g1d : decide ((100 : Int) < (x.src.size : Int)) = false := decide_eq_false g1'
                have g1n : decide (100 < x.src.size) = false := decide_eq_false g1
                clear g1
                by_cases g2 : 100 < x.dst.size
                · have g2' : (100 : Int) < (x.dst.size : Int) := by omega
                  have g2d : decide ((100 : Int) < (x.dst.size : Int)) = true := decide_eq_true g2'
                  clear g2
                  go_wp2_with fail
                  go_ret
                  exact ⟨⟨true, rfl, fun h => by cases h⟩, rfl⟩
                · have g2' : ¬ (100 : Int) < (x.dst.size : Int) := by omega
                  have g2d : decide ((100 : Int) < (x.dst.size : Int)) = false := decide_eq_false g2'
                  have g2n : decide (100 < x.dst.size) = false := decide_eq_false g2
                  clear g2
                  by_cases g3 : 100 < x.coin.size
                  · have g3' : (100 : Int) < (x.coin.size : Int) := by omega
                    have g3d : decide ((100 : Int) < (x.coin.size : Int)) = true := decide_eq_true g3'
                    clear g3
                    go_wp2_with fail
                    go_ret
                    exact ⟨⟨true, rfl, fun h => by cases h⟩, rfl⟩
                  · have g3' : ¬ (100 : Int) < (x.coin.size : Int) := by omega
                    have g3d : decide ((100 : Int) < (x.coin.size : Int)) = false := decide_eq_false g3'
                    have g3n : decide (100 < x.coin.size) = false := decide_eq_false g3
                    clear g3
                    go_wp2_with fail
                    go_roundw
                    case rel => exact ⟨j + 1, by go_num, by have := HJL.out; omega, trivial⟩
                    case measure => simp [intOf]; have := HJL.out; omega
            · have hjt' : ¬ (j : Int) < (ml : Int) := by omega
              clear hjt
              go_wp2_with fail
              go_ret
              exact ⟨⟨false, rfl, fun _ => ⟨by have := HA.out; omega, by have := HB.out; omega⟩⟩, rfl⟩
end Go.Proofs.Ytgbiimoednmlgaa
