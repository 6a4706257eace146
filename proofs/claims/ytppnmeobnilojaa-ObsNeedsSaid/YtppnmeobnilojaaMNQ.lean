/- A part of the proof: Rnd, Rnx, LawN, one behind another. -/
import Derived.Test.YtppnmeobnilojaaMNA
import Derived.Test.YtppnmeobnilojaaMNB
import Derived.Test.YtppnmeobnilojaaMNC
import Derived.Test.YtppnmeobnilojaaMND
import Derived.Test.YtppnmeobnilojaaMNE
import Derived.Test.YtppnmeobnilojaaMNF
import Derived.Test.YtppnmeobnilojaaMNG
import Derived.Test.YtppnmeobnilojaaMNH
import Derived.Test.YtppnmeobnilojaaMNI
import Derived.Test.YtppnmeobnilojaaMNJ
import Derived.Test.YtppnmeobnilojaaMNK
import Derived.Test.YtppnmeobnilojaaMNL
import Derived.Test.YtppnmeobnilojaaMNM
import Derived.Test.YtppnmeobnilojaaMNN
import Derived.Test.YtppnmeobnilojaaMNO
import Derived.Sort.Walk0
import Derived.Deep.Upon
import Derived.Deep.QuietTactic
import Derived.BigQuiet
import Derived.StillTailTactics
import Derived.IntWalk
/- The contract of ref22.needs: the names that are not seen come to their places in a rising list. -/
namespace Go.Proofs.Ytppnmeobnilojaa
set_option linter.unusedVariables false
set_option linter.unusedSimpArgs false
open Go.RowKit
/-- append of whatever slice onto a row of the call's own: of nothing, too. -/
theorem ap_rowZ {P : Program} {w : World} {ops : Array Oper} {rest : List Oper} {o : Oper} {a : Act} {Q : Exit → Act → World → Prop} {t e : TypeId} {z : Value} {size bytes base : Nat}
    (hinfo : (P.info? e).map (fun i => (i.zero, i.size, i.bytes)) = some (some z, size, bytes)) (ht : P.underlying t = some (.slice e)) (hzs : z.cells.size = size) (hsz : 0 < size)
    (hgd : o.guard = none) (s x : Operand) (ho : o.op = .call { callee := .builtin .append, args := #[s, x], argTypes := #[t, t] })
    {v : Value} {n : Nat} {xs : List Value} (hs : a.eval s = v) (hown : w.ownsRow base e size v n xs) (hbase : base ≤ w.heap.size)
    (ao : Option Addr) (m c : Nat) (news : List Value) (hx : a.eval x = .slice ao m c) (hl : news.length = m * size)
    (hnews : 0 < m → ∃ ad, ao = some ad ∧ ∀ j u, news[j]? = some u → w.cell? (ad.add j) = some u) (h1 : ∀ u ∈ news, u.oneCell' = true)
    (h63 : n + m ≤ maxLen) (hbytes : (n + m) * bytes ≤ 140737488355328)
    (h : ∀ v' w', w'.ownsRow base e size v' (n + m) (xs ++ news) → w.grownBy w' v.ownBlock → (v'.ownBlock = v.ownBlock ∨ v'.ownBlock = some w.heap.size) → wpList P ops Q rest (a.put o.dst v') w') :
    wpList P ops Q (o :: rest) a w := by
  by_cases hm : m = 0
  · subst hm
    obtain ⟨i, hi, hz, hsize, hby⟩ := info_parts hinfo
    obtain ⟨av, capv, rfl⟩ := own_slice hown
    have hl0 : news = [] := List.length_eq_zero_iff.1 (by rw [hl, Nat.zero_mul])
    subst hl0
    have hcap : n ≤ capv := by
      rcases hown.2 with ⟨h1, h2⟩ | ⟨g, cap', cur, h1, h2, h3, h4, h5⟩
      · injection h1 with _ h1 h3; omega
      · injection h1 with _ h1 h3; omega
    have hsrc : Src P i.size t (.slice ao 0 c) 0 [] w := by
      cases ao with
      | none => exact Src.ofNil w ht c
      | some ad => exact Src.ofSlice w ht ad 0 c [] (by simp) (fun j u h => by cases h) (fun u h => by cases h)
    have hrun := run_append_nothing (P := P) w t t o.type e i ht hi av n capv hcap _ hsrc
    refine wpList_plain hgd fun _ hK => ?_
    unfold Oper.wp execOp
    simp only [ho, resolve, invoke, builtin, Sem.run_bind, Sem.run_pure, Result.andThen_ok, List.map_toArray, List.map_cons, List.map_nil, hs, hx, hrun]
    exact hK _ _ (h _ _ (by rw [List.append_nil]; exact hown) (World.grownBy.refl _ _) (.inl rfl))
  · obtain ⟨ad, rfl, hc⟩ := hnews (by omega)
    exact ap_row hinfo ht hzs hsz hgd s x ho hs hown hbase ad m c news hx hl hc h1 h63 hbytes h
theorem infoS : (Try.prog.info? 9).map (fun i => (i.zero, i.size, i.bytes)) = some (some (.string ⟨#[]⟩), 1, 16) := by kernel_rfl
theorem str_cells {w : World} {X : List Nat} {l : List Tx} {b o len cap : Nat} (h : SlR strK w X l (some ⟨b, o, none⟩) len cap) : ∀ j u, (l.map encStr)[j]? = some u → w.cell? ((⟨b, o, none⟩ : Addr).add j) = some u := by
  intro j u hu
  rw [List.getElem?_map] at hu
  cases hj : l[j]? with
  | none => rw [hj] at hu; cases hu
  | some s =>
    rw [hj] at hu
    injection hu with hu
    have hlt : j < len := by rw [← h.facts.1]; exact (List.getElem?_eq_some_iff.1 hj).1
    obtain ⟨b', o', s', cs, ha, -, -, hs, hR, -, hc⟩ := h.at j hlt
    injection ha with ha; injection ha with h1 h2; subst h1; subst h2
    rw [hj] at hs; injection hs with hs; subst hs
    have hR' : cs = [encStr s] := hR
    subst hR'
    have := hc 0 _ rfl
    rw [Mem.add_off]
    rw [← hu]
    simpa [strK] using this
theorem enc_one (l : List Tx) : ∀ u ∈ l.map encStr, u.oneCell' = true := by
  intro u hu
  obtain ⟨s, -, rfl⟩ := List.mem_map.1 hu
  simp [encStr, Value.oneCell']
/-- A row of texts of the call's own, as a slice. -/
theorem own_strs {w0 w : World} {v : Value} {n : Nat} {l : List Tx} (h : w.ownsRow w0.heap.size 9 1 v n (l.map encStr)) (hl : l.length = n) (hb : Below w0.heap.size w0 w) :
    ∃ a cap, v = .slice a n cap ∧ SlR strK w [] l a n cap := by
  have hfl : ∀ l : List Tx, (l.map (fun s => [encStr s])).flatten = l.map encStr := fun l => by induction l with | nil => rfl | cons x t ih => simp [ih]
  have h' := h
  rw [← hfl] at h'
  obtain ⟨a, c, rfl, hsl, -⟩ := own_sl (w0 := w0) (X := []) ⟨hb, h'⟩ (by rw [List.length_map, hl]) (fun c hc => by obtain ⟨s, _, rfl⟩ := List.mem_map.1 hc; rfl) (fun b hb => by cases hb)
  refine ⟨a, c, rfl, ⟨l.map (fun s => [encStr s]), by rw [List.length_map], fun i x cs hx hc => ?_, hsl⟩⟩
  rw [List.getElem?_map, hx] at hc
  injection hc with hc; exact hc.symm
/-- What is answered: a list of texts. -/
def RetL (w' : World) (L : List Tx) (x : Ending) : Prop := ∃ a c, x = .returned (.slice a L.length c) ∧ SlR strK w' [] L a L.length c ∧ (L.length = 0 → a = none ∧ c = 0)
theorem unsE_mk (day : Int) (fx : List Fx) (op n : Int) (nm : ByteArray) (args : List Ex) : unsE day fx (.mk op n nm args) = (if op = 3 ∧ seenV day fx nm = .unk then [nm] else []) ++ (obsE.go args).filter (unkP day fx) := by
  unfold unsE
  show ((if op = 3 then [nm] else []) ++ obsE.go args).filter _ = _
  rw [List.filter_append]
  congr 1
  by_cases h : op = 3
  · rw [if_pos h, List.filter_cons]
    by_cases h2 : seenV day fx nm = .unk
    · have hu : unkP day fx nm = true := decide_eq_true h2
      rw [hu, if_pos (show op = 3 ∧ seenV day fx nm = .unk from ⟨h, h2⟩)]; rfl
    · have hu : unkP day fx nm = false := decide_eq_false h2
      rw [hu, if_neg (fun h3 : op = 3 ∧ seenV day fx nm = .unk => h2 h3.2)]; rfl
  · rw [if_neg h, if_neg (fun h2 => h h2.1)]; rfl
theorem obs_go_len {l : List Ex} (h : ∀ e ∈ l, (obsE e).length ≤ e.nd) : (obsE.go l).length ≤ Ex.nd.go l := by
  induction l with
  | nil => simp [obsE.go]
  | cons x t ih =>
    have h1 := h x (List.mem_cons_self ..)
    have h2 := ih (fun e he => h e (List.mem_cons_of_mem _ he))
    simp only [obsE.go, Ex.nd.go, List.length_append]; omega
theorem obs_len : ∀ (r : Nat) (e : Ex), e.rk ≤ r → (obsE e).length ≤ e.nd := by
  intro r
  induction r with
  | zero => intro e h; have := e.rk_pos; omega
  | succ r ih =>
    intro e he
    obtain ⟨op, n, nm, l⟩ := e
    have h := obs_go_len (l := l) (fun x hx => by
      obtain ⟨k, hk⟩ := List.getElem?_of_mem hx
      exact ih x (by have := Ex.rk_lt (op := op) (n := n) (nm := nm) hk; omega))
    simp only [obsE, Ex.nd, List.length_append]
    split <;> simp only [List.length_cons, List.length_nil] <;> omega
theorem uns_len (day : Int) (fx : List Fx) (e : Ex) : (unsE day fx e).length ≤ e.nd := Nat.le_trans (List.length_filter_le _ _) (obs_len e.rk e (Nat.le_refl _))
/-- Where needs stands. -/
structure NdSt (w W : World) (day : Int) (fa : Option Addr) (fl fc : Nat) (op no : Int) (nm : ByteArray) (a : Option Addr) (len cap : Nat) : Prop where
  bel : Below w.heap.size w W
  ex : Mem.Blk W w.heap.size 46 #[.int .i64 op, .int .i64 no, .string nm, .slice a len cap]
  ev : Mem.Blk W (w.heap.size + 1) 58 #[.int .i64 day, .slice fa fl fc]
theorem NdSt.up {w W W' : World} {day : Int} {fa : Option Addr} {fl fc : Nat} {op no : Int} {nm : ByteArray} {a : Option Addr} {len cap : Nat} (h : NdSt w W day fa fl fc op no nm a len cap) (b : Below W.heap.size W W') : NdSt w W' day fa fl fc op no nm a len cap :=
  ⟨h.bel.trans (b.mono h.bel.size), h.ex.below b, h.ev.below b⟩
/-- A list of texts in memory: none has no address. -/
def LsS (W : World) (l : List Tx) (la : Option Addr) (ln lc : Nat) : Prop := SlR strK W [] l la ln lc ∧ (ln = 0 → la = none ∧ lc = 0)
theorem LsS.below {W W' : World} {l : List Tx} {la : Option Addr} {ln lc : Nat} (h : LsS W l la ln lc) (b : Below W.heap.size W W') : LsS W' l la ln lc := ⟨h.1.kept (Kept.of_below b []), h.2⟩
theorem LsS.as {W : World} {l l' : List Tx} {la : Option Addr} {ln lc : Nat} (h : LsS W l la ln lc) (e : l' = l) : LsS W l' la ln lc := e ▸ h
theorem less_str (t nm : ByteArray) : Op.bytesLess t.toList nm.toList = decide (t.data.toList < nm.data.toList) := by
  rw [ByteArray.toList_eq, ByteArray.toList_eq, Go.Proofs.bytesLess_eq]
set_option maxRecDepth 100000 in
set_option maxHeartbeats 4000000 in
theorem rneeds_any (day : Int) (fx : List Fx) (fa : Option Addr) (fl fc : Nat) : ∀ (r : Nat) (e : Ex), e.rk ≤ r → ∀ (cs : List Value) (w : World) (l : List Tx) (la : Option Addr) (ln lc : Nat), RepE w [] e cs → SlR fxK w [] fx fa fl fc → LsS w l la ln lc → ln + e.nd ≤ 1000 →
    Calls Try.prog 69 #[.slice la ln lc, .agg cs.toArray, .agg #[.int .i64 day, .slice fa fl fc]] w fun x w' => RetL w' (putL l (unsE day fx e)) x ∧ Below w.heap.size w w' := by
  intro r
  induction r with
  | zero => intro e h; have := e.rk_pos; omega
  | succ r ih =>
    intro e hr cs w l la ln lc hR hF hL hn
    obtain ⟨op, no, nm, args, a, len, cap, rfl, rfl, i1, i2, i3, hS⟩ := hR.inv
    obtain ⟨f1, f2, f3⟩ := hS.facts
    have HI : Hid (∀ (k : Nat) e1, args[k]? = some e1 → ∀ cs1 W l1 la1 ln1 lc1, RepE W [] e1 cs1 → SlR fxK W [] fx fa fl fc → LsS W l1 la1 ln1 lc1 → ln1 + e1.nd ≤ 1000 →
        Calls Try.prog 69 #[.slice la1 ln1 lc1, .agg cs1.toArray, .agg #[.int .i64 day, .slice fa fl fc]] W fun x w' => RetL w' (putL l1 (unsE day fx e1)) x ∧ Below W.heap.size W w') := by
      intro k e1 hk cs1 W l1 la1 ln1 lc1 hR1 hF1 hL1 hn1
      exact ih e1 (by have := Ex.rk_lt (op := op) (n := no) (nm := nm) hk; omega) cs1 W l1 la1 ln1 lc1 hR1 hF1 hL1 hn1
    have hnd : ln + 1 + Ex.nd.go args ≤ 1000 := by simp only [Ex.nd] at hn; omega
    have HND := Lib.hid hnd
    have hB0 := Mem.Blk.new w 46 #[.int .i64 op, .int .i64 no, .string nm, .slice a len cap]
    have hB1 := Mem.Blk.new (w.alloc (.cells #[.int .i64 op, .int .i64 no, .string nm, .slice a len cap] 46)) 58 #[.int .i64 day, .slice fa fl fc]
    have e1 : (w.alloc (.cells #[.int .i64 op, .int .i64 no, .string nm, .slice a len cap] 46)).heap.size = w.heap.size + 1 := by simp
    rw [e1] at hB1
    have ST : Hid (NdSt w _ day fa fl fc op no nm a len cap) := ⟨((Below.refl w.heap.size w).alloc (Nat.le_refl _) (.cells #[.int .i64 op, .int .i64 no, .string nm, .slice a len cap] 46)).alloc (by rw [e1]; omega) (.cells #[.int .i64 day, .slice fa fl fc] 58), hB0.alloc (.cells #[.int .i64 day, .slice fa fl fc] 58), hB1⟩
    have HSS := Lib.hid hS
    have HFX := Lib.hid hF
    have HLL := Lib.hid hL
    have HLEN := Lib.hid f1
    have HS2 := Lib.hid (seen_or day fx nm)
    have HSE := Lib.hid (fun W (hW : SlR fxK W [] fx fa fl fc) => rseen_any day fx nm fa fl fc W hW)
    obtain ⟨P, hP⟩ : ∃ P, P = (if op = 3 ∧ seenV day fx nm = .unk then [nm] else []) := ⟨_, rfl⟩
    have HPP := Lib.hid hP
    have HPL : Hid (P.length ≤ 1) := by show _ ≤ _; rw [hP]; split <;> simp
    obtain ⟨R, hR'⟩ : ∃ R, R = putL l (unsE day fx (.mk op no nm args)) := ⟨_, rfl⟩
    rw [← hR']
    have HRR : Hid (R = putL (putL l P) ((obsE.go args).filter (unkP day fx))) := by
      show R = _
      rw [hR', unsE_mk, ← hP, putL_append]
    generalize seenV day fx nm = sv at *
    clear ih hr hR hS hF hL f1 hn hnd i1 i2 i3 hB0 hB1 e1 hR' hP
    go_enter Try.func69, Try.ntmps69
    go_upto_region 1 with (fail)
    generalize (w.alloc (.cells #[.int .i64 op, .int .i64 no, .string nm, .slice a len cap] 46)).alloc (.cells #[.int .i64 day, .slice fa fl fc] 58) = v at *
    have x0 : v.cell? ⟨w.heap.size, 0, none⟩ = some (.int .i64 op) := ST.out.ex.cell 0
    go_upto_if 14 with (fail)
    go_cut [0] (fun p W => ∃ la1 ln1 lc1, p = .slice la1 ln1 lc1 ∧ Hid (NdSt w W day fa fl fc op no nm a len cap ∧ LsS W (putL l P) la1 ln1 lc1))
    case first =>
      clear HRR HI HSS HLEN
      by_cases ho : op = 3
      · subst ho
        rcases HS2.out with rfl | ⟨m, rfl⟩
        · obtain rfl : P = [nm] := by rw [HPP.out]; rfl
          clear HPP HPL HS2
          have c2 : v.cell? ⟨w.heap.size, 2, none⟩ = some (.string nm) := ST.out.ex.cell 2
          have e0 : v.cell? ⟨w.heap.size + 1, 0, none⟩ = some (.int .i64 day) := ST.out.ev.cell 0
          have e1 : v.cell? ⟨w.heap.size + 1, 1, none⟩ = some (.slice fa fl fc) := ST.out.ev.cell 1
          go_wp2_with fail
          go_at_call 37
          (with_reducible refine (HSE.out v (HFX.out.kept (Kept.of_below ST.out.bel []))).mono ?_)
          rintro x w2 ⟨rfl, bb⟩
          simp only [seenRt]
          have ST2 := Lib.hid (ST.out.up bb)
          have HL2 := Lib.hid ((HLL.out.below ST.out.bel).below bb)
          clear bb ST HSE HLL HFX x0 c2 e0 e1
          obtain ⟨p, hp⟩ : ∃ p, p = posL nm.data.toList l := ⟨_, rfl⟩
          have HP := Lib.hid hp
          have HPN : Hid (p ≤ ln) := by show _ ≤ _; rw [hp, ← HL2.out.1.facts.1]; exact posL_le _ _
          clear hp
          go_wp2_with fail
          go_loopw [9] (fun i wr => ∃ (k : Nat), i = .int .i64 (k : Nat) ∧ k ≤ p ∧ Hid (NdSt w wr day fa fl fc 3 no nm a len cap ∧ LsS wr l la ln lc)) (fun i _ => p - (intOf i).toNat)
          case atStart => exact ⟨0, rfl, Nat.zero_le _, ST2.out, HL2.out⟩
          case round =>
            clear ST2 HL2
            obtain ⟨k, rfl, hk, HR⟩ := hrel
            have c2 : wr.cell? ⟨w.heap.size, 2, none⟩ = some (.string nm) := HR.out.1.ex.cell 2
            have i0 : (0 : Int) ≤ (k : Int) := by omega
            have i1 : (k : Int) ≤ 1000 := by have := HPN.out; have := HND.out; omega
            by_cases hkp : k < p
            · have hkl : (k : Int) < (ln : Int) := by have := HPN.out; omega
              obtain ⟨b, o, s, rfl, hs, u0⟩ := str_at HR.out.2.1 k (by omega)
              have hlt : Op.bytesLess (⟨s.toArray⟩ : ByteArray).toList nm.toList = true := by
                rw [less_str]
                refine decide_eq_true ?_
                have h := posL_lt (l := l) (k := k) (x := s) (by rw [← HP.out]; exact hkp) hs
                simpa using h
              generalize (⟨s.toArray⟩ : ByteArray) = t at *
              clear hs
              go_wp2_with fail
              go_quiet (fail)
              go_wp2_with fail
              go_roundw
              case rel => exact ⟨k + 1, by go_num, by omega, HR.out.1.up (below_dN (Below.refl _ _) _), HR.out.2.below (below_dN (Below.refl _ _) _)⟩
              case measure => simp [intOf]; omega
            · obtain rfl : k = p := by omega
              by_cases hkl : k < ln
              · have hkl' : (k : Int) < (ln : Int) := by omega
                have hkl'' : (((k : Nat) : Int) == (ln : Int)) = false := beq_eq_false_iff_ne.2 (by omega)
                obtain ⟨b, o, s, rfl, hs, u0⟩ := str_at HR.out.2.1 k hkl
                have hlt : Op.bytesLess (⟨s.toArray⟩ : ByteArray).toList nm.toList = false := by
                  rw [less_str]
                  refine decide_eq_false ?_
                  have h := posL_end (s := nm.data.toList) (l := l) (x := s) (by rw [← HP.out]; exact hs)
                  simpa using h
                have HSK := Lib.hid hs
                by_cases hse : s = nm.data.toList
                · have hbe : ((⟨s.toArray⟩ : ByteArray).toList == nm.toList) = true := by
                    rw [beq_iff_eq, ByteArray.toList_eq, ByteArray.toList_eq, hse]
                  have HIN : Hid (insL nm.data.toList l = l) := by
                    show insL _ _ = _
                    unfold insL
                    rw [← HP.out, hs, hse, if_pos rfl]
                  generalize (⟨s.toArray⟩ : ByteArray) = t at *
                  clear hs HSK hse
                  go_wp2_with fail
                  go_quiet (fail)
                  go_wp2_with fail
                  go_quiet (fail)
                  go_wp2_with fail
                  go_meet
                  case rel => exact ⟨_, ln, lc, rfl, HR.out.1.up (below_dN (below_dN (Below.refl _ _) _) _), (HR.out.2.below (below_dN (below_dN (Below.refl _ _) _) _)).as HIN.out⟩
                · have hbe : ((⟨s.toArray⟩ : ByteArray).toList == nm.toList) = false := by
                    rw [beq_eq_false_iff_ne, ByteArray.toList_eq, ByteArray.toList_eq]
                    exact fun h => hse (by simpa using h)
                  have HIN : Hid (insL nm.data.toList l = l.take k ++ nm.data.toList :: l.drop k) := by
                    show insL _ _ = _
                    unfold insL
                    rw [← HP.out, hs, if_neg (fun h => hse (Option.some.inj h))]
                  generalize (⟨s.toArray⟩ : ByteArray) = t at *
                  clear hs HSK hse
                  go_wp2_with fail
                  go_quiet (fail)
                  generalize nq = nqA at *
                  go_wp2_with fail
                  go_quiet (fail)
                  generalize nq = nqB at *
                  go_upto_region 9 with (fail)
                  have NS1 := Lib.hid (HR.out.1.up (below_dN (below_dN (Below.refl wr.heap.size wr) nqA) nqB))
                  have LS1 := Lib.hid (HR.out.2.below (below_dN (below_dN (Below.refl wr.heap.size wr) nqA) nqB))
                  clear HR c2 u0 hlt hbe
                  generalize (wr.drewN nqA).drewN nqB = W1 at *
                  obtain ⟨g1, g2, g3⟩ := LS1.out.1.facts
                  have HLL := Lib.hid g1
                  have hkc : (k : Int) ≤ (lc : Int) := by omega
                  clear g1
                  have HN2 : Hid (0 < k → ∃ ad : Addr, ((some ⟨b, o, none⟩) : Option Addr) = some ad ∧ ∀ j u, ((l.take k).map encStr)[j]? = some u → W1.cell? (ad.add j) = some u) := by
                    intro _
                    refine ⟨_, rfl, fun j u hu => str_cells LS1.out.1 j u ?_⟩
                    rw [List.map_take] at hu
                    have hj := (List.getElem?_eq_some_iff.1 hu).1
                    rw [List.getElem?_take_of_lt (by simp at hj; omega)] at hu
                    exact hu
                  have HN1 : Hid (((l.take k).map encStr).length = k * 1) := by
                    show _ = _
                    rw [List.length_map, List.length_take, HLL.out, Nat.mul_one]; have := HPN.out; omega
                  have hk9 : k ≤ 1000 := by omega
                  go_upto_region 10 with (at_builtin; refine ap_rowZ infoS Try.underlying77 rfl (by decide) rfl (.tmp 52) (.tmp 55) rfl rfl (World.ownsRow_nil W1 W1.heap.size 9 1) (Nat.le_refl _) (some ⟨b, o, none⟩) k _ ((l.take k).map encStr) rfl HN1.out HN2.out (enc_one _) (by unfold maxLen; omega) (by omega) ?_; intro v' W2 o' g' h'; have HO : Hid (W2.ownsRow W1.heap.size 9 1 v' (0 + k) ([] ++ (l.take k).map encStr)) := o'; have HG : Hid (W1.grownBy W2 none) := g'; clear o' g' h')
                  clear HN1 HN2
                  have hb2 : Below W1.heap.size W1 W2 := (Below.refl W1.heap.size W1).grown HG.out (Nat.le_refl _) (fun b hb => by cases hb)
                  have hbn := (Below.refl W2.heap.size W2).alloc (Nat.le_refl _) (.cells #[.string nm] 9)
                  have HO2 := Lib.hid (own_below HO.out hbn)
                  have HB2 := Lib.hid (hb2.trans (hbn.mono hb2.size))
                  have c2 : W2.cell? ⟨w.heap.size, 2, none⟩ = some (.string nm) := (NS1.out.up hb2).ex.cell 2
                  clear HO HG hb2 hbn
                  go_upto_region 11 with (at_builtin; refine ap_row infoS Try.underlying77 rfl (by decide) rfl (.tmp 57) (.tmp 60) rfl rfl HO2.out HB2.out.size ⟨W2.heap.size, 0, none⟩ 1 1 [.string nm] rfl rfl (lit_cells_at W2 #[.string nm] 9 _ rfl) (by simp [Value.oneCell']) (by unfold maxLen; omega) (by omega) ?_; intro v3 W3 o' g' h'; have HO : Hid (W3.ownsRow W1.heap.size 9 1 v3 (0 + k + 1) ([] ++ (l.take k).map encStr ++ [.string nm])) := o'; have HG : Hid ((W2.alloc (.cells #[.string nm] 9)).grownBy W3 v'.ownBlock) := g'; clear o' g' h')
                  have hb3 := HB2.out.grown HG.out HB2.out.size (fun b hb => (own_lt HO2.out hb).1)
                  have LS3 := Lib.hid (LS1.out.below hb3)
                  have HB3 := Lib.hid hb3
                  clear HO2 HB2 HG hb3 c2
                  have hne : ¬ lc = k := by omega
                  have HN2 : Hid (0 < ln - k → ∃ ad : Addr, (some ⟨b, o + k, none⟩ : Option Addr) = some ad ∧ ∀ j u, ((l.drop k).map encStr)[j]? = some u → W3.cell? (ad.add j) = some u) := by
                    intro _
                    refine ⟨_, rfl, fun j u hu => ?_⟩
                    have h := str_cells LS3.out.1 (k + j) u (by rw [← List.getElem?_drop, ← List.map_drop]; exact hu)
                    rw [Mem.add_off] at h ⊢
                    rw [Nat.add_assoc]; exact h
                  have HN1 : Hid (((l.drop k).map encStr).length = (ln - k) * 1) := by
                    show _ = _
                    rw [List.length_map, List.length_drop, HLL.out, Nat.mul_one]; first | done | omega
                  have hl9 : ln ≤ 1000 := by have := HND.out; omega
                  go_wp2_with (at_builtin; refine ap_rowZ infoS Try.underlying77 rfl (by decide) rfl (.tmp 62) (.tmp 65) rfl rfl HO.out HB3.out.size (some ⟨b, o + k, none⟩) (ln - k) _ ((l.drop k).map encStr) rfl HN1.out HN2.out (enc_one _) (by unfold maxLen; omega) (by omega) ?_; intro v4 W4 o' g' h'; have HO4 : Hid (W4.ownsRow W1.heap.size 9 1 v4 (0 + k + 1 + (ln - k)) ([] ++ (l.take k).map encStr ++ [.string nm] ++ (l.drop k).map encStr)) := o'; have HG : Hid (W3.grownBy W4 v3.ownBlock) := g'; clear o' g' h')
                  have hb4 := HB3.out.grown HG.out HB3.out.size (fun b hb => (own_lt HO.out hb).1)
                  have hO : W4.ownsRow W1.heap.size 9 1 v4 (ln + 1) ((l.take k ++ nm.data.toList :: l.drop k).map encStr) := by
                    have h := HO4.out
                    have e : 0 + k + 1 + (ln - k) = ln + 1 := by have := HPN.out; omega
                    have e2 : encStr nm.data.toList = .string nm := by obtain ⟨⟨x⟩⟩ := nm; rfl
                    rw [e] at h
                    rw [List.map_append, List.map_cons, e2]
                    simpa using h
                  obtain ⟨a4, c4, rfl, hS4⟩ := own_strs hO (by rw [List.length_append, List.length_cons, List.length_take, List.length_drop, HLL.out]; have := HPN.out; omega) hb4
                  have FIN : Hid (NdSt w W4 day fa fl fc 3 no nm a len cap ∧ LsS W4 (insL nm.data.toList l) a4 (ln + 1) c4) := ⟨NS1.out.up hb4, by rw [HIN.out]; exact ⟨hS4, fun h => absurd h (by omega)⟩⟩
                  clear hb4 hO hS4 HO4 HG HO HB3 HN1 HN2
                  go_meet
                  case rel => exact ⟨a4, ln + 1, c4, rfl, FIN.out⟩
              · have hkl' : ¬ (k : Int) < (ln : Int) := by omega
                obtain rfl : k = ln := by have := HPN.out; omega
                have hkl'' : (((k : Nat) : Int) == (k : Int)) = true := beq_iff_eq.2 rfl
                have hll := HR.out.2.1.facts.1
                have HIN : Hid (insL nm.data.toList l = l.take k ++ nm.data.toList :: l.drop k) := by
                  show insL _ _ = _
                  unfold insL
                  rw [← HP.out, List.getElem?_eq_none (by omega), if_neg (by simp)]
                clear hll
                by_cases h0 : k = 0
                · subst h0
                  obtain ⟨rfl, rfl⟩ := HR.out.2.2 rfl
                  go_wp2_with fail
                  go_quiet (fail)
                  generalize nq = nqA at *
                  go_wp2_with fail
                  go_quiet (fail)
                  generalize nq = nqB at *
                  go_upto_region 9 with (fail)
                  have NS1 := Lib.hid (HR.out.1.up (below_dN (below_dN (Below.refl wr.heap.size wr) nqA) nqB))
                  have LS1 := Lib.hid (HR.out.2.below (below_dN (below_dN (Below.refl wr.heap.size wr) nqA) nqB))
                  clear HR c2 i0
                  generalize (wr.drewN nqA).drewN nqB = W1 at *
                  obtain ⟨g1, g2, g3⟩ := LS1.out.1.facts
                  have HLL := Lib.hid g1
                  have hkc : (0 : Int) ≤ (0 : Int) := by omega
                  clear g1
                  have HN2 : Hid (0 < 0 → ∃ ad : Addr, (none : Option Addr) = some ad ∧ ∀ j u, ((l.take 0).map encStr)[j]? = some u → W1.cell? (ad.add j) = some u) := fun h => absurd h (by omega)
                  have HN1 : Hid (((l.take 0).map encStr).length = 0 * 1) := by
                    show _ = _
                    rw [List.length_map, List.length_take, HLL.out, Nat.mul_one]; have := HPN.out; omega
                  have hk9 : 0 ≤ 1000 := by omega
                  go_upto_region 10 with (at_builtin; refine ap_rowZ infoS Try.underlying77 rfl (by decide) rfl (.tmp 52) (.tmp 55) rfl rfl (World.ownsRow_nil W1 W1.heap.size 9 1) (Nat.le_refl _) none 0 _ ((l.take 0).map encStr) rfl HN1.out HN2.out (enc_one _) (by unfold maxLen; omega) (by omega) ?_; intro v' W2 o' g' h'; have HO : Hid (W2.ownsRow W1.heap.size 9 1 v' (0 + 0) ([] ++ (l.take 0).map encStr)) := o'; have HG : Hid (W1.grownBy W2 none) := g'; clear o' g' h')
                  clear HN1 HN2
                  have hb2 : Below W1.heap.size W1 W2 := (Below.refl W1.heap.size W1).grown HG.out (Nat.le_refl _) (fun b hb => by cases hb)
                  have hbn := (Below.refl W2.heap.size W2).alloc (Nat.le_refl _) (.cells #[.string nm] 9)
                  have HO2 := Lib.hid (own_below HO.out hbn)
                  have HB2 := Lib.hid (hb2.trans (hbn.mono hb2.size))
                  have c2 : W2.cell? ⟨w.heap.size, 2, none⟩ = some (.string nm) := (NS1.out.up hb2).ex.cell 2
                  clear HO HG hb2 hbn
                  go_upto_region 11 with (at_builtin; refine ap_row infoS Try.underlying77 rfl (by decide) rfl (.tmp 57) (.tmp 60) rfl rfl HO2.out HB2.out.size ⟨W2.heap.size, 0, none⟩ 1 1 [.string nm] rfl rfl (lit_cells_at W2 #[.string nm] 9 _ rfl) (by simp [Value.oneCell']) (by unfold maxLen; omega) (by omega) ?_; intro v3 W3 o' g' h'; have HO : Hid (W3.ownsRow W1.heap.size 9 1 v3 (0 + 0 + 1) ([] ++ (l.take 0).map encStr ++ [.string nm])) := o'; have HG : Hid ((W2.alloc (.cells #[.string nm] 9)).grownBy W3 v'.ownBlock) := g'; clear o' g' h')
                  have hb3 := HB2.out.grown HG.out HB2.out.size (fun b hb => (own_lt HO2.out hb).1)
                  have LS3 := Lib.hid (LS1.out.below hb3)
                  have HB3 := Lib.hid hb3
                  clear HO2 HB2 HG hb3 c2
                  have HN2 : Hid (0 < 0 → ∃ ad : Addr, (none : Option Addr) = some ad ∧ ∀ j u, ((l.drop 0).map encStr)[j]? = some u → W3.cell? (ad.add j) = some u) := fun h => absurd h (by omega)
                  have HN1 : Hid (((l.drop 0).map encStr).length = 0 * 1) := by
                    show _ = _
                    rw [List.length_map, List.length_drop, HLL.out, Nat.mul_one]; first | done | omega
                  have hl9 : 0 ≤ 1000 := by have := HND.out; omega
                  go_wp2_with (at_builtin; refine ap_rowZ infoS Try.underlying77 rfl (by decide) rfl (.tmp 62) (.tmp 65) rfl rfl HO.out HB3.out.size none 0 _ ((l.drop 0).map encStr) rfl HN1.out HN2.out (enc_one _) (by unfold maxLen; omega) (by omega) ?_; intro v4 W4 o' g' h'; have HO4 : Hid (W4.ownsRow W1.heap.size 9 1 v4 (0 + 0 + 1 + 0) ([] ++ (l.take 0).map encStr ++ [.string nm] ++ (l.drop 0).map encStr)) := o'; have HG : Hid (W3.grownBy W4 v3.ownBlock) := g'; clear o' g' h')
                  have hb4 := HB3.out.grown HG.out HB3.out.size (fun b hb => (own_lt HO.out hb).1)
                  have hO : W4.ownsRow W1.heap.size 9 1 v4 (0 + 1) ((l.take 0 ++ nm.data.toList :: l.drop 0).map encStr) := by
                    have h := HO4.out
                    have e : 0 + 0 + 1 + 0 = 0 + 1 := by have := HPN.out; omega
                    have e2 : encStr nm.data.toList = .string nm := by obtain ⟨⟨x⟩⟩ := nm; rfl
                    rw [e] at h
                    rw [List.map_append, List.map_cons, e2]
                    simpa using h
                  obtain ⟨a4, c4, rfl, hS4⟩ := own_strs hO (by rw [List.length_append, List.length_cons, List.length_take, List.length_drop, HLL.out]; have := HPN.out; omega) hb4
                  have FIN : Hid (NdSt w W4 day fa fl fc 3 no nm a len cap ∧ LsS W4 (insL nm.data.toList l) a4 (0 + 1) c4) := ⟨NS1.out.up hb4, by rw [HIN.out]; exact ⟨hS4, fun h => absurd h (by omega)⟩⟩
                  clear hb4 hO hS4 HO4 HG HO HB3 HN1 HN2
                  go_meet
                  case rel => exact ⟨a4, 0 + 1, c4, rfl, FIN.out⟩
                · obtain ⟨b, o, rfl⟩ : ∃ b o, la = some ⟨b, o, none⟩ := by
                    obtain ⟨b, o, -, ha, -⟩ := str_at HR.out.2.1 0 (by omega)
                    exact ⟨b, o, ha⟩
                  go_wp2_with fail
                  go_quiet (fail)
                  generalize nq = nqA at *
                  go_wp2_with fail
                  go_quiet (fail)
                  generalize nq = nqB at *
                  go_upto_region 9 with (fail)
                  have NS1 := Lib.hid (HR.out.1.up (below_dN (below_dN (Below.refl wr.heap.size wr) nqA) nqB))
                  have LS1 := Lib.hid (HR.out.2.below (below_dN (below_dN (Below.refl wr.heap.size wr) nqA) nqB))
                  clear HR c2 i0
                  generalize (wr.drewN nqA).drewN nqB = W1 at *
                  obtain ⟨g1, g2, g3⟩ := LS1.out.1.facts
                  have HLL := Lib.hid g1
                  have hkc : (k : Int) ≤ (lc : Int) := by omega
                  clear g1
                  have HN2 : Hid (0 < k → ∃ ad : Addr, ((some ⟨b, o, none⟩) : Option Addr) = some ad ∧ ∀ j u, ((l.take k).map encStr)[j]? = some u → W1.cell? (ad.add j) = some u) := by
                    intro _
                    refine ⟨_, rfl, fun j u hu => str_cells LS1.out.1 j u ?_⟩
                    rw [List.map_take] at hu
                    have hj := (List.getElem?_eq_some_iff.1 hu).1
                    rw [List.getElem?_take_of_lt (by simp at hj; omega)] at hu
                    exact hu
                  have HN1 : Hid (((l.take k).map encStr).length = k * 1) := by
                    show _ = _
                    rw [List.length_map, List.length_take, HLL.out, Nat.mul_one]; have := HPN.out; omega
                  have hk9 : k ≤ 1000 := by omega
                  go_upto_region 10 with (at_builtin; refine ap_rowZ infoS Try.underlying77 rfl (by decide) rfl (.tmp 52) (.tmp 55) rfl rfl (World.ownsRow_nil W1 W1.heap.size 9 1) (Nat.le_refl _) (some ⟨b, o, none⟩) k _ ((l.take k).map encStr) rfl HN1.out HN2.out (enc_one _) (by unfold maxLen; omega) (by omega) ?_; intro v' W2 o' g' h'; have HO : Hid (W2.ownsRow W1.heap.size 9 1 v' (0 + k) ([] ++ (l.take k).map encStr)) := o'; have HG : Hid (W1.grownBy W2 none) := g'; clear o' g' h')
                  clear HN1 HN2
                  have hb2 : Below W1.heap.size W1 W2 := (Below.refl W1.heap.size W1).grown HG.out (Nat.le_refl _) (fun b hb => by cases hb)
                  have hbn := (Below.refl W2.heap.size W2).alloc (Nat.le_refl _) (.cells #[.string nm] 9)
                  have HO2 := Lib.hid (own_below HO.out hbn)
                  have HB2 := Lib.hid (hb2.trans (hbn.mono hb2.size))
                  have c2 : W2.cell? ⟨w.heap.size, 2, none⟩ = some (.string nm) := (NS1.out.up hb2).ex.cell 2
                  clear HO HG hb2 hbn
                  go_upto_region 11 with (at_builtin; refine ap_row infoS Try.underlying77 rfl (by decide) rfl (.tmp 57) (.tmp 60) rfl rfl HO2.out HB2.out.size ⟨W2.heap.size, 0, none⟩ 1 1 [.string nm] rfl rfl (lit_cells_at W2 #[.string nm] 9 _ rfl) (by simp [Value.oneCell']) (by unfold maxLen; omega) (by omega) ?_; intro v3 W3 o' g' h'; have HO : Hid (W3.ownsRow W1.heap.size 9 1 v3 (0 + k + 1) ([] ++ (l.take k).map encStr ++ [.string nm])) := o'; have HG : Hid ((W2.alloc (.cells #[.string nm] 9)).grownBy W3 v'.ownBlock) := g'; clear o' g' h')
                  have hb3 := HB2.out.grown HG.out HB2.out.size (fun b hb => (own_lt HO2.out hb).1)
                  have LS3 := Lib.hid (LS1.out.below hb3)
                  have HB3 := Lib.hid hb3
                  clear HO2 HB2 HG hb3 c2
                  by_cases hck : lc = k
                  · obtain rfl : k = lc := hck.symm
                    have HN2 : Hid (0 < 0 → ∃ ad : Addr, ((some ⟨b, o, none⟩) : Option Addr) = some ad ∧ ∀ j u, ((l.drop k).map encStr)[j]? = some u → W3.cell? (ad.add j) = some u) := fun h => absurd h (by omega)
                    have HN1 : Hid (((l.drop k).map encStr).length = 0 * 1) := by
                      show _ = _
                      rw [List.length_map, List.length_drop, HLL.out, Nat.mul_one]; first | done | omega
                    have hl9 : k ≤ 1000 := by have := HND.out; omega
                    go_wp2_with (at_builtin; refine ap_rowZ infoS Try.underlying77 rfl (by decide) rfl (.tmp 62) (.tmp 65) rfl rfl HO.out HB3.out.size (some ⟨b, o, none⟩) 0 _ ((l.drop k).map encStr) rfl HN1.out HN2.out (enc_one _) (by unfold maxLen; omega) (by omega) ?_; intro v4 W4 o' g' h'; have HO4 : Hid (W4.ownsRow W1.heap.size 9 1 v4 (0 + k + 1 + 0) ([] ++ (l.take k).map encStr ++ [.string nm] ++ (l.drop k).map encStr)) := o'; have HG : Hid (W3.grownBy W4 v3.ownBlock) := g'; clear o' g' h')
                    have hb4 := HB3.out.grown HG.out HB3.out.size (fun b hb => (own_lt HO.out hb).1)
                    have hO : W4.ownsRow W1.heap.size 9 1 v4 (k + 1) ((l.take k ++ nm.data.toList :: l.drop k).map encStr) := by
                      have h := HO4.out
                      have e : 0 + k + 1 + 0 = k + 1 := by have := HPN.out; omega
                      have e2 : encStr nm.data.toList = .string nm := by obtain ⟨⟨x⟩⟩ := nm; rfl
                      rw [e] at h
                      rw [List.map_append, List.map_cons, e2]
                      simpa using h
                    obtain ⟨a4, c4, rfl, hS4⟩ := own_strs hO (by rw [List.length_append, List.length_cons, List.length_take, List.length_drop, HLL.out]; have := HPN.out; omega) hb4
                    have FIN : Hid (NdSt w W4 day fa fl fc 3 no nm a len cap ∧ LsS W4 (insL nm.data.toList l) a4 (k + 1) c4) := ⟨NS1.out.up hb4, by rw [HIN.out]; exact ⟨hS4, fun h => absurd h (by omega)⟩⟩
                    clear hb4 hO hS4 HO4 HG HO HB3 HN1 HN2
                    go_meet
                    case rel => exact ⟨a4, k + 1, c4, rfl, FIN.out⟩
                  · have HN2 : Hid (0 < 0 → ∃ ad : Addr, ((some ⟨b, o + k, none⟩) : Option Addr) = some ad ∧ ∀ j u, ((l.drop k).map encStr)[j]? = some u → W3.cell? (ad.add j) = some u) := fun h => absurd h (by omega)
                    have HN1 : Hid (((l.drop k).map encStr).length = 0 * 1) := by
                      show _ = _
                      rw [List.length_map, List.length_drop, HLL.out, Nat.mul_one]; first | done | omega
                    have hl9 : k ≤ 1000 := by have := HND.out; omega
                    go_wp2_with (at_builtin; refine ap_rowZ infoS Try.underlying77 rfl (by decide) rfl (.tmp 62) (.tmp 65) rfl rfl HO.out HB3.out.size (some ⟨b, o + k, none⟩) 0 _ ((l.drop k).map encStr) rfl HN1.out HN2.out (enc_one _) (by unfold maxLen; omega) (by omega) ?_; intro v4 W4 o' g' h'; have HO4 : Hid (W4.ownsRow W1.heap.size 9 1 v4 (0 + k + 1 + 0) ([] ++ (l.take k).map encStr ++ [.string nm] ++ (l.drop k).map encStr)) := o'; have HG : Hid (W3.grownBy W4 v3.ownBlock) := g'; clear o' g' h')
                    have hb4 := HB3.out.grown HG.out HB3.out.size (fun b hb => (own_lt HO.out hb).1)
                    have hO : W4.ownsRow W1.heap.size 9 1 v4 (k + 1) ((l.take k ++ nm.data.toList :: l.drop k).map encStr) := by
                      have h := HO4.out
                      have e : 0 + k + 1 + 0 = k + 1 := by have := HPN.out; omega
                      have e2 : encStr nm.data.toList = .string nm := by obtain ⟨⟨x⟩⟩ := nm; rfl
                      rw [e] at h
                      rw [List.map_append, List.map_cons, e2]
                      simpa using h
                    obtain ⟨a4, c4, rfl, hS4⟩ := own_strs hO (by rw [List.length_append, List.length_cons, List.length_take, List.length_drop, HLL.out]; have := HPN.out; omega) hb4
                    have FIN : Hid (NdSt w W4 day fa fl fc 3 no nm a len cap ∧ LsS W4 (insL nm.data.toList l) a4 (k + 1) c4) := ⟨NS1.out.up hb4, by rw [HIN.out]; exact ⟨hS4, fun h => absurd h (by omega)⟩⟩
                    clear hb4 hO hS4 HO4 HG HO HB3 HN1 HN2
                    go_meet
                    case rel => exact ⟨a4, k + 1, c4, rfl, FIN.out⟩
        · obtain rfl : P = [] := by rw [HPP.out, if_neg (by simp)]
          clear HPP HPL HS2
          have c2 : v.cell? ⟨w.heap.size, 2, none⟩ = some (.string nm) := ST.out.ex.cell 2
          have e0 : v.cell? ⟨w.heap.size + 1, 0, none⟩ = some (.int .i64 day) := ST.out.ev.cell 0
          have e1 : v.cell? ⟨w.heap.size + 1, 1, none⟩ = some (.slice fa fl fc) := ST.out.ev.cell 1
          go_wp2_with fail
          go_at_call 37
          (with_reducible refine (HSE.out v (HFX.out.kept (Kept.of_below ST.out.bel []))).mono ?_)
          rintro x w2 ⟨rfl, bb⟩
          simp only [seenRt]
          have ST2 := Lib.hid (ST.out.up bb)
          have HL2 := Lib.hid ((HLL.out.below ST.out.bel).below bb)
          clear bb ST HSE HLL HFX x0 c2 e0 e1
          go_wp2_with fail
          go_meet
          case rel => exact ⟨la, ln, lc, rfl, ST2.out, HL2.out⟩
      · have ho' : (op == 3) = false := beq_eq_false_iff_ne.2 ho
        obtain rfl : P = [] := by rw [HPP.out, if_neg (fun h => ho h.1)]
        have HL2 := Lib.hid (HLL.out.below ST.out.bel)
        clear HPP HPL HS2 HSE HLL
        go_wp2_with fail
        go_meet
        case rel => exact ⟨la, ln, lc, rfl, ST.out, HL2.out⟩
    case rest =>
      obtain ⟨la1, ln1, lc1, rfl, HC⟩ := hcut
      obtain ⟨W0, rfl⟩ : ∃ W : World, W = wc := ⟨_, rfl⟩
      have HN1 : Hid (ln1 ≤ ln + 1) := by
        have h1 := HC.out.2.1.facts.1
        have h2 := putL_len P l
        have h3 := HLL.out.1.facts.1
        have h4 := HPL.out
        show _ ≤ _
        omega
      clear HS2 HSE HPP HPL HLL ST x0
      have c3 : W0.cell? ⟨w.heap.size, 3, none⟩ = some (.slice a len cap) := HC.out.1.ex.cell 3
      go_wp2_with fail
      go_loopw [0, 11] (fun p i wr => ∃ (k ln2 : Nat) (la2 : Option Addr) (lc2 : Nat), p = .slice la2 ln2 lc2 ∧ i = .int .i64 (k : Nat) ∧ k ≤ len ∧ Hid (NdSt w wr day fa fl fc op no nm a len cap ∧ LsS wr (putL (putL l P) ((obsE.go (args.take k)).filter (unkP day fx))) la2 ln2 lc2 ∧ ln2 ≤ ln + 1 + Ex.nd.go (args.take k))) (fun _ i _ => len - (intOf i).toNat)
      case atStart => exact ⟨0, ln1, la1, lc1, rfl, rfl, Nat.zero_le _, HC.out.1, HC.out.2, by have := HN1.out; omega⟩
      case round =>
        clear HC HN1 c3
        obtain ⟨k, ln2, la2, lc2, rfl, rfl, hk, HR⟩ := hrel
        have c3 : wr.cell? ⟨w.heap.size, 3, none⟩ = some (.slice a len cap) := HR.out.1.ex.cell 3
        by_cases hlt : k < len
        · obtain ⟨b, o, cop, cn, cnm, cargs, ca, clen, ccap, rfl, -, -, hxe, j1, j2, j3, hSc, v0, v1, v2, v3⟩ := (HSS.out.kept (Kept.of_below HR.out.1.bel [])).at k hlt
          have j1' : (k : Int) < (len : Int) := by omega
          have j0' : (0 : Int) ≤ (k : Int) := by omega
          have HXE := Lib.hid hxe
          have q0 : wr.cell? ⟨w.heap.size + 1, 0, none⟩ = some (.int .i64 day) := HR.out.1.ev.cell 0
          have q1 : wr.cell? ⟨w.heap.size + 1, 1, none⟩ = some (.slice fa fl fc) := HR.out.1.ev.cell 1
          have HBD := Lib.hid ((Below.refl wr.heap.size wr).drew)
          have HC : Hid (Calls Try.prog 69 #[.slice la2 ln2 lc2, .agg #[.int .i64 cop, .int .i64 cn, .string cnm, .slice ca clen ccap], .agg #[.int .i64 day, .slice fa fl fc]] wr.drew fun x w' => RetL w' (putL (putL (putL l P) ((obsE.go (args.take k)).filter (unkP day fx))) (unsE day fx (.mk cop cn cnm cargs))) x ∧ Below wr.drew.heap.size wr.drew w') :=
            HI.out k _ hxe _ wr.drew _ _ _ _ ((RepE.mk' j1 j2 j3 hSc).kept (Kept.of_below HBD.out [])) ((HFX.out.kept (Kept.of_below HR.out.1.bel [])).kept (Kept.of_below HBD.out [])) (HR.out.2.1.below HBD.out) (by
              have h1 := HR.out.2.2
              have h2 := Ex.nd_take hxe
              have h3 := nd_take_le args (k + 1)
              have h4 := HND.out
              omega)
          clear hxe j1 j2 j3 hSc
          go_wp2_with fail
          go_still_tail 7, (by kernel_rfl)
          change wpList _ _ _ _ _ wr.drew
          go_wp2_with fail
          go_at_call 69
          (with_reducible refine HC.out.mono ?_)
          rintro x w3 ⟨⟨la3, lc3, rfl, hs3, hz3⟩, b3⟩
          have hw : Below wr.heap.size wr w3 := HBD.out.trans b3
          have FIN : Hid (NdSt w w3 day fa fl fc op no nm (some ⟨b, o, none⟩) len cap ∧ LsS w3 (putL (putL l P) ((obsE.go (args.take (k + 1))).filter (unkP day fx))) la3 (putL (putL (putL l P) ((obsE.go (args.take k)).filter (unkP day fx))) (unsE day fx (.mk cop cn cnm cargs))).length lc3 ∧ (putL (putL (putL l P) ((obsE.go (args.take k)).filter (unkP day fx))) (unsE day fx (.mk cop cn cnm cargs))).length ≤ ln + 1 + Ex.nd.go (args.take (k + 1))) := by
            have e : putL (putL l P) ((obsE.go (args.take (k + 1))).filter (unkP day fx)) = putL (putL (putL l P) ((obsE.go (args.take k)).filter (unkP day fx))) (unsE day fx (.mk cop cn cnm cargs)) := by
              rw [obs_take HXE.out, List.filter_append, putL_append]; rfl
            refine ⟨HR.out.1.up hw, ⟨?_, hz3⟩, ?_⟩
            · rw [e]; exact hs3
            · have h1 := putL_len (unsE day fx (.mk cop cn cnm cargs)) (putL (putL l P) ((obsE.go (args.take k)).filter (unkP day fx)))
              have h2 := uns_len day fx (.mk cop cn cnm cargs)
              have h3 := Ex.nd_take HXE.out
              have h4 := HR.out.2.2
              have h5 := HR.out.2.1.1.facts.1
              omega
          generalize (putL (putL (putL l P) ((obsE.go (args.take k)).filter (unkP day fx))) (unsE day fx (.mk cop cn cnm cargs))).length = ln3 at *
          clear hs3 hz3 b3 hw HC HR c3 v0 v1 v2 v3 q0 q1 HBD
          go_wp2_with fail
          go_roundw
          case rel => exact ⟨k + 1, ln3, la3, lc3, rfl, by go_num, by omega, FIN.out⟩
          case measure => simp [intOf]; omega
        · have hk' : ¬ (k : Int) < (len : Int) := by omega
          have FIN : Hid (RetL wr R (.returned (.slice la2 ln2 lc2)) ∧ Below w.heap.size w wr) := by
            have h := HR.out
            rw [List.take_of_length_le (by rw [HLEN.out]; omega), ← HRR.out] at h
            have h5 := h.2.1.1.facts.1
            subst h5
            exact ⟨⟨la2, lc2, rfl, h.2.1.1, h.2.1.2⟩, h.1.bel⟩
          clear HR
          go_wp2_with fail
          go_ret
          exact FIN.out
end Go.Proofs.Ytppnmeobnilojaa

/- The contract of ref22.Needs. -/
namespace Go.Proofs.Ytppnmeobnilojaa
set_option linter.unusedVariables false
set_option linter.unusedSimpArgs false
open Go.RowKit
set_option maxRecDepth 100000 in
set_option maxHeartbeats 2000000 in
theorem rneedsX_any (day : Int) (fx : List Fx) (fa : Option Addr) (fl fc : Nat) (e : Ex) (cs : List Value) (w : World) (hR : RepE w [] e cs) (hF : SlR fxK w [] fx fa fl fc) (hn : e.nd ≤ 1000) :
    Calls Try.prog 43 #[.agg cs.toArray, .agg #[.int .i64 day, .slice fa fl fc]] w fun x w' => RetL w' (putL [] (unsE day fx e)) x ∧ Below w.heap.size w w' := by
  have HRT := Lib.hid (show RepE w [] e cs from hR)
  have HFX := Lib.hid hF
  obtain ⟨op, no, nm, args, a, len, cap, -, rfl, -, -, -, -⟩ := hR.inv
  have hB0 := Mem.Blk.new w 46 #[.int .i64 op, .int .i64 no, .string nm, .slice a len cap]
  have hB1 := Mem.Blk.new (w.alloc (.cells #[.int .i64 op, .int .i64 no, .string nm, .slice a len cap] 46)) 58 #[.int .i64 day, .slice fa fl fc]
  have e1 : (w.alloc (.cells #[.int .i64 op, .int .i64 no, .string nm, .slice a len cap] 46)).heap.size = w.heap.size + 1 := by simp
  rw [e1] at hB1
  have ST : Hid (NdSt w _ day fa fl fc op no nm a len cap) := ⟨((Below.refl w.heap.size w).alloc (Nat.le_refl _) (.cells #[.int .i64 op, .int .i64 no, .string nm, .slice a len cap] 46)).alloc (by rw [e1]; omega) (.cells #[.int .i64 day, .slice fa fl fc] 58), hB0.alloc (.cells #[.int .i64 day, .slice fa fl fc] 58), hB1⟩
  clear hR hF hB0 hB1 e1
  go_enter Try.func43, Try.ntmps43
  go_upto_region 1 with (fail)
  generalize (w.alloc (.cells #[.int .i64 op, .int .i64 no, .string nm, .slice a len cap] 46)).alloc (.cells #[.int .i64 day, .slice fa fl fc] 58) = v at *
  have x0 : v.cell? ⟨w.heap.size, 0, none⟩ = some (.int .i64 op) := ST.out.ex.cell 0
  have x1 : v.cell? ⟨w.heap.size, 1, none⟩ = some (.int .i64 no) := ST.out.ex.cell 1
  have x2 : v.cell? ⟨w.heap.size, 2, none⟩ = some (.string nm) := ST.out.ex.cell 2
  have x3 : v.cell? ⟨w.heap.size, 3, none⟩ = some (.slice a len cap) := ST.out.ex.cell 3
  have q0 : v.cell? ⟨w.heap.size + 1, 0, none⟩ = some (.int .i64 day) := ST.out.ev.cell 0
  have q1 : v.cell? ⟨w.heap.size + 1, 1, none⟩ = some (.slice fa fl fc) := ST.out.ev.cell 1
  have HNL : LsS v [] none 0 0 := And.intro (SlR.nil _ _ _) (fun _ => ⟨rfl, rfl⟩)
  go_wp2_with fail
  go_at_call 69
  (with_reducible refine (rneeds_any day fx fa fl fc e.rk e (Nat.le_refl _) _ v [] none 0 0 (HRT.out.kept (Kept.of_below ST.out.bel [])) (HFX.out.kept (Kept.of_below ST.out.bel [])) HNL (by omega)).mono ?_)
  rintro x w3 ⟨⟨la, lc, rfl, hs, hz⟩, b3⟩
  have FIN : Hid (RetL w3 (putL [] (unsE day fx e)) (.returned (.slice la (putL [] (unsE day fx e)).length lc)) ∧ Below w.heap.size w w3) := ⟨⟨la, lc, rfl, hs, hz⟩, ST.out.bel.trans (b3.mono ST.out.bel.size)⟩
  clear hs hz b3 HNL ST x0 x1 x2 x3 q0 q1
  generalize (putL [] (unsE day fx e)).length = n at *
  go_wp2_with fail
  go_ret
  exact FIN.out
end Go.Proofs.Ytppnmeobnilojaa

/- The walk of ObsNeeds, for any leaves and fixings. -/
namespace Go.Proofs.Ytppnmeobnilojaa
set_option linter.unusedVariables false
set_option linter.unusedSimpArgs false
open Go.RowKit
/-- Whatever Needs answers, it is the list that is wanted. -/
theorem want_no {day : Int} {fx : List Fx} {e : Ex} {L : List Tx} (h : rE e = false) (h1 : rE e = false → L = []) : L = [] := h1 h
theorem want_yes {day : Int} {fx : List Fx} {e : Ex} {L : List Tx} (h : rE e = true) (h1 : rE e = true → L.Perm (Go.strKeys (setD (unsE day fx e))) ∧ L.Pairwise (fun x y => x ≤ y)) : L = putL [] (unsE day fx e) := needs_list (h1 h).1 (h1 h).2
set_option maxRecDepth 100000 in
set_option maxHeartbeats 8000000 in
theorem obsNeeds_any (lfs : List Lf) (al : Option Addr) (ll cl : Nat) (day : Int) (fx : List Fx) (a : Option Addr) (len cap : Nat) (w : World) (hl : SlR lfK w [] lfs al ll cl) (hS : SlR fxK w [] fx a len cap) (hd : I64 day) :
    Calls Try.prog 11 #[.slice al ll cl, .agg #[.int .i64 day, .slice a len cap]] w fun e w' => e = .returned (.bool true) ∧ Below w.heap.size w w' := by
  have hal := (Below.refl w.heap.size w).alloc (Nat.le_refl _) (.cells #[.int .i64 day, .slice a len cap] 58)
  have HS0 := Lib.hid (hS.kept (Kept.of_below hal []))
  have HLF := Lib.hid (hl.kept (Kept.of_below hal []))
  have HB0 := Lib.hid hal
  have BX := Lib.hid (Mem.Blk.new w 58 #[.int .i64 day, .slice a len cap])
  have HD := Lib.hid hd
  clear hal hS hl hd
  go_enter Try.func11, Try.ntmps11
  go_upto_region 1 with (fail)
  generalize w.alloc (.cells #[.int .i64 day, .slice a len cap] 58) = v at *
  obtain ⟨c0, c1, -, -⟩ := BX.out.two
  go_wp2_with fail
  go_at_call 38
  (with_reducible refine (great22_any _ _ _ _ _ _ _ _).mono ?_)
  rintro e w1 ⟨rfl, b1⟩
  have HB1 := Lib.hid (HB0.out.trans (b1.mono HB0.out.size))
  have HS1 := Lib.hid (HS0.out.kept (Kept.of_below b1 []))
  have HL1 := Lib.hid (HLF.out.kept (Kept.of_below b1 []))
  have BX1 := Lib.hid (BX.out.below b1)
  clear b1 HB0 HS0 HLF BX c0 c1
  by_cases hg : 60 < ll ∨ 60 < len
  · rw [decide_eq_true hg]
    go_wp2_with fail
    go_at_call 34
    (with_reducible refine (awake22_any _).mono ?_)
    rintro e w9 ⟨rfl, b9⟩
    have HB9 := Lib.hid (HB1.out.trans (b9.mono HB1.out.size))
    clear b9
    go_wp2_with fail
    go_ret
    exact ⟨rfl, HB9.out⟩
  · rw [decide_eq_false hg]
    have hlen : len ≤ 200 := by omega
    have HBU := Lib.hid (build_any lfs [] al none ll cl 0 0 w1 HL1.out (SlR.nil _ _ _))
    clear hg HL1
    go_wp2_with fail
    go_at_call 15
    (with_reducible refine HBU.out.mono ?_)
    rintro e w2 ⟨⟨es, ts, cs, rfl, hT, hle, -, hrk, -⟩, b1⟩
    obtain ⟨aE, cE, aN, cN, aD, cD, aT, cT, aM, cM, aP, cP, hcs, -⟩ := id hT
    have hal := (Below.refl w2.heap.size w2).alloc (Nat.le_refl _) (.cells #[.slice aE es.length cE, .slice aN (nds es).length cN, .slice aD (rks es).length cD, .slice aT ts.length cT, .slice aM (ndsT ts).length cM, .slice aP (rksT ts).length cP] 30)
    have b2 := b1.trans (hal.mono b1.size)
    have HB2 := Lib.hid (HB1.out.trans (b2.mono HB1.out.size))
    have HS2 := Lib.hid (HS1.out.kept (Kept.of_below b2 []))
    have BX2 := Lib.hid (BX1.out.below b2)
    have HT0 := Lib.hid (hT.kept (Kept.of_below hal []))
    have BT0 := Lib.hid (Mem.Blk.new w2 30 #[.slice aE es.length cE, .slice aN (nds es).length cN, .slice aD (rks es).length cD, .slice aT ts.length cT, .slice aM (ndsT ts).length cM, .slice aP (rksT ts).length cP])
    have HRK := Lib.hid hrk
    subst hcs
    clear hT b1 b2 hrk HBU hal HB1 HS1 BX1
    go_wp2_with fail
    generalize w2.alloc (.cells #[.slice aE es.length cE, .slice aN (nds es).length cN, .slice aD (rks es).length cD, .slice aT ts.length cT, .slice aM (ndsT ts).length cM, .slice aP (rksT ts).length cP] 30) = v2 at *
    generalize w2.heap.size = tb at *
    go_loopw [6] (fun i wr => ∃ (k : Nat), i = .int .i64 (k : Nat) ∧ k ≤ es.length ∧ Hid (Below v2.heap.size v2 wr)) (fun i _ => es.length - (intOf i).toNat)
    case atStart => exact ⟨0, rfl, Nat.zero_le _, Below.refl _ _⟩
    case round =>
      obtain ⟨k, rfl, hk, HR⟩ := hrel
      have d0 : wr.cell? ⟨tb, 0, none⟩ = some (.slice aE es.length cE) := (BT0.out.below HR.out).cell 0
      by_cases hlt : k < es.length
      · have hk' : (k : Int) < (es.length : Int) := by omega
        have i0 : (0 : Int) ≤ (k : Int) := by omega
        obtain ⟨t, ht⟩ : ∃ t, es[k]? = some t := ⟨_, List.getElem?_eq_getElem hlt⟩
        have HRt := Lib.hid (HRK.out t (List.mem_of_getElem? ht))
        have HRE := Lib.hid (fun W (hW : Below v2.heap.size v2 W) => treeRightE_any (HT0.out.kept (Kept.of_below hW [])) k ht (by have := HRt.out; omega))
        obtain ⟨_, _, _, _, _, _, _, _, _, _, _, _, e, h4, -⟩ := id (HT0.out.kept (Kept.of_below HR.out []))
        injection e with e3 e
        injection e3 with e3 _ e3'
        subst e3; subst e3'
        clear e
        obtain ⟨bt, ot, xt, ct, rfl, -, -, hxt, hRt, -, hct⟩ := h4.at k hlt
        obtain rfl : t = xt := by rw [ht] at hxt; injection hxt
        have HRT := Lib.hid (show RepE wr [] t ct from hRt)
        obtain ⟨o5, n5, m5, r5, a5, l5, p5, -, rfl, -, -, -, -⟩ := HRT.out.inv
        have HV0 := Lib.hid (show Four wr bt (ot + k * 4) (.int .i64 o5) (.int .i64 n5) (.string m5) (.slice a5 l5 p5) from four_of hct)
        have HBE := Lib.hid (@rE_blt t)
        clear h4 hxt hRt hct ht
        have HND : Hid (rE t = true → t.nd ≤ 200) := by
          intro h
          have h2 : rE t = (decide (t.nd ≤ 200 ∧ t.rk ≤ 16) && bE t) := rfl
          rw [h2, Bool.and_eq_true, decide_eq_true_eq] at h
          exact h.1.1
        clear HBE
        go_upto_region 8 with (fail)
        clear d0
        have c0 : wr.cell? ⟨tb, 0, none⟩ = _ := (BT0.out.below HR.out).cell 0
        have c1 : wr.cell? ⟨tb, 1, none⟩ = _ := (BT0.out.below HR.out).cell 1
        have c2 : wr.cell? ⟨tb, 2, none⟩ = _ := (BT0.out.below HR.out).cell 2
        have c3 : wr.cell? ⟨tb, 3, none⟩ = _ := (BT0.out.below HR.out).cell 3
        have c4 : wr.cell? ⟨tb, 4, none⟩ = _ := (BT0.out.below HR.out).cell 4
        have c5 : wr.cell? ⟨tb, 5, none⟩ = _ := (BT0.out.below HR.out).cell 5
        simp only [List.getElem?_toArray, List.getElem?_cons_zero, List.getElem?_cons_succ] at c0 c1 c2 c3 c4 c5
        go_wp2_with fail
        go_at_call 24
        (with_reducible refine (HRE.out wr HR.out).mono ?_)
        rintro y w3 ⟨rfl, b3⟩
        have HR3 := Lib.hid (HR.out.trans (b3.mono HR.out.size))
        have HW3 := Lib.hid b3
        clear b3 c0 c1 c2 c3 c4 c5 HRE HR
        obtain ⟨re, hre⟩ : ∃ re, re = rE t := ⟨_, rfl⟩
        rw [← hre] at ⊢
        have HRE' := Lib.hid hre
        clear hre
        have d0 : w3.cell? ⟨tb, 0, none⟩ = some (.slice (some ⟨bt, ot, none⟩) es.length cE) := (BT0.out.below HR3.out).cell 0
        have v0 := cell_up HV0.out.1 HW3.out
        have v1 := cell_up HV0.out.2.1 HW3.out
        have v2' := cell_up HV0.out.2.2.1 HW3.out
        have v3' := cell_up HV0.out.2.2.2 HW3.out
        obtain ⟨e0, e1, -, -⟩ := (BX2.out.below HR3.out).two
        cases re with
        | false =>
          have HQ : Hid (∀ L : List Tx, (rE t = false → L = []) → (rE t = true → L.Perm (Go.strKeys (setD (unsE day fx t))) ∧ L.Pairwise (fun x y => x ≤ y)) → L = []) := fun L h1 _ => h1 HRE'.out.symm
          have HWT : Hid (SlR strK w3 [] [] none 0 0) := SlR.nil _ _ _
          go_upto_region 10 with (fail)
          refine wp_region_till (S := fun W => W.cell? ⟨tb, 0, none⟩ = some (.slice (some ⟨bt, ot, none⟩) es.length cE) ∧ (W.cell? ⟨bt, ot + k * 4, none⟩ = some (.int .i64 o5) ∧ W.cell? ⟨bt, ot + k * 4 + 1, none⟩ = some (.int .i64 n5) ∧ W.cell? ⟨bt, ot + k * 4 + 2, none⟩ = some (.string m5) ∧ W.cell? ⟨bt, ot + k * 4 + 3, none⟩ = some (.slice a5 l5 p5)) ∧ (W.cell? ⟨w.heap.size, 0, none⟩ = some (.int .i64 day) ∧ W.cell? ⟨w.heap.size, 1, none⟩ = some (.slice a len cap))) 9 (by kernel_rfl) ?_
          refine till_take (i := 0) (v := ?_) rfl (by kernel_rfl) (fun _ _ _ h => h) (Or.inl ⟨by rfl, ?_⟩) ⟨d0,⟨v0,v1,v2',v3'⟩,⟨e0,e1⟩⟩ ?_
          rotate_left
          · intro W hS
            try dsimp only at hS
            go_split_ands
            go_simp
            try with_reducible rfl
          try simp only [Act.put, List.getElem_toArray, List.getElem_cons_zero, List.getElem_cons_succ, List.setIfInBounds_toArray, List.set_cons_zero, List.set_cons_succ]
          refine till_take (i := 1) (v := ?_) rfl (by kernel_rfl) (fun _ _ _ h => h) (Or.inl ⟨by rfl, ?_⟩) ⟨d0,⟨v0,v1,v2',v3'⟩,⟨e0,e1⟩⟩ ?_
          rotate_left
          · intro W hS
            try dsimp only at hS
            go_split_ands
            go_simp
            try with_reducible rfl
          try simp only [Act.put, List.getElem_toArray, List.getElem_cons_zero, List.getElem_cons_succ, List.setIfInBounds_toArray, List.set_cons_zero, List.set_cons_succ]
          refine till_take (i := 2) (v := ?_) rfl (by kernel_rfl) (fun _ _ _ h => h) (Or.inl ⟨by rfl, ?_⟩) ⟨d0,⟨v0,v1,v2',v3'⟩,⟨e0,e1⟩⟩ ?_
          rotate_left
          · intro W hS
            try dsimp only at hS
            go_split_ands
            go_simp
            try with_reducible rfl
          try simp only [Act.put, List.getElem_toArray, List.getElem_cons_zero, List.getElem_cons_succ, List.setIfInBounds_toArray, List.set_cons_zero, List.set_cons_succ]
          refine till_take (i := 3) (v := ?_) rfl (by kernel_rfl) (fun _ _ _ h => h) (Or.inl ⟨by rfl, ?_⟩) ⟨d0,⟨v0,v1,v2',v3'⟩,⟨e0,e1⟩⟩ ?_
          rotate_left
          · intro W hS
            try dsimp only at hS
            go_split_ands
            go_simp
            try with_reducible rfl
          try simp only [Act.put, List.getElem_toArray, List.getElem_cons_zero, List.getElem_cons_succ, List.setIfInBounds_toArray, List.set_cons_zero, List.set_cons_succ]
          refine till_take (i := 4) (v := ?_) rfl (by kernel_rfl) (fun _ _ _ h => h) (Or.inl ⟨by rfl, ?_⟩) ⟨d0,⟨v0,v1,v2',v3'⟩,⟨e0,e1⟩⟩ ?_
          rotate_left
          · intro W hS
            try dsimp only at hS
            go_split_ands
            go_simp
            try with_reducible rfl
          try simp only [Act.put, List.getElem_toArray, List.getElem_cons_zero, List.getElem_cons_succ, List.setIfInBounds_toArray, List.set_cons_zero, List.set_cons_succ]
          refine till_take (i := 5) (v := ?_) rfl (by kernel_rfl) (fun _ _ _ h => h) (Or.inl ⟨by rfl, ?_⟩) ⟨d0,⟨v0,v1,v2',v3'⟩,⟨e0,e1⟩⟩ ?_
          rotate_left
          · intro W hS
            try dsimp only at hS
            go_split_ands
            go_simp
            try with_reducible rfl
          try simp only [Act.put, List.getElem_toArray, List.getElem_cons_zero, List.getElem_cons_succ, List.setIfInBounds_toArray, List.set_cons_zero, List.set_cons_succ]
          refine till_take (i := 8) (v := ?_) rfl (by kernel_rfl) (fun _ _ _ h => h) (Or.inl ⟨by rfl, ?_⟩) ⟨d0,⟨v0,v1,v2',v3'⟩,⟨e0,e1⟩⟩ ?_
          rotate_left
          · intro W hS
            try dsimp only at hS
            go_split_ands
            go_simp
            try with_reducible rfl
          try simp only [Act.put, List.getElem_toArray, List.getElem_cons_zero, List.getElem_cons_succ, List.setIfInBounds_toArray, List.set_cons_zero, List.set_cons_succ]
          refine till_one (i := 6) (by kernel_rfl) rfl (fun K' hK => ?_)
          go_simp
          have hd8 := (Below.refl w3.heap.size w3).drew
          go_at_call 36
          (with_reducible refine (env_any day fx a len cap _ (HS2.out.kept (Kept.of_below (HR3.out.trans (hd8.mono HR3.out.size)) [])) hlen).mono ?_)
          rintro y w8 ⟨⟨a8, p8, rfl, hV⟩, b8⟩
          have bt := hd8.trans (b8.mono hd8.size)
          have HR8 := Lib.hid (HR3.out.trans (bt.mono HR3.out.size))
          have HW8 := Lib.hid (HW3.out.trans (bt.mono HW3.out.size))
          have HV8 := Lib.hid hV
          have HWT8 := Lib.hid (HWT.out.kept (Kept.of_below bt []))
          replace d0 := cell_up d0 bt
          replace v0 := cell_up v0 bt
          replace v1 := cell_up v1 bt
          replace v2' := cell_up v2' bt
          replace v3' := cell_up v3' bt
          replace e0 := cell_up e0 bt
          replace e1 := cell_up e1 bt
          refine hK _ _ ⟨d0,⟨v0,v1,v2',v3'⟩,⟨e0,e1⟩⟩ ?_
          clear hK K' b8 bt hd8 hV
          try simp only [Act.put, List.getElem_toArray, List.getElem_cons_zero, List.getElem_cons_succ, List.setIfInBounds_toArray, List.set_cons_zero, List.set_cons_succ]
          refine till_one (i := 7) (by kernel_rfl) rfl (fun K' hK => ?_)
          go_simp
          go_at_call 45
          (with_reducible refine (needsX_any day fx a8 _ p8 t _ w8 (HRT.out.kept (Kept.of_below HW8.out [])) (by have := HRt.out; omega) HV8.out).mono ?_)
          rintro y w9 ⟨⟨a9, c9, L9, rfl, hs9, h91, h92⟩, b9⟩
          have HL9 := (HQ.out L9 h91 h92).symm
          subst HL9
          have HR9 := Lib.hid (HR8.out.trans (b9.mono HR8.out.size))
          have HWT9 := Lib.hid (HWT8.out.kept (Kept.of_below b9 []))
          have HS9 := Lib.hid hs9
          replace d0 := cell_up d0 b9
          replace v0 := cell_up v0 b9
          replace v1 := cell_up v1 b9
          replace v2' := cell_up v2' b9
          replace v3' := cell_up v3' b9
          replace e0 := cell_up e0 b9
          replace e1 := cell_up e1 b9
          refine hK _ _ ⟨d0,⟨v0,v1,v2',v3'⟩,⟨e0,e1⟩⟩ ?_
          clear hK K' b9 HR8 HW8 HV8 HWT8 hs9 h91 h92 d0 v0 v1 v2' v3' e0 e1
          try simp only [Act.put, List.getElem_toArray, List.getElem_cons_zero, List.getElem_cons_succ, List.setIfInBounds_toArray, List.set_cons_zero, List.set_cons_succ]
          refine till_last (by kernel_rfl) rfl (by kernel_rfl) (fun K' hK => ?_)
          go_simp
          go_at_call 44
          refine (sames_any _ _ _ _ _ _ _ HS9.out HWT9.out).mono ?_
          rintro y w10 ⟨rfl, b10⟩
          have HR10 := Lib.hid (HR9.out.trans (b10.mono HR9.out.size))
          refine hK _ _ ?_
          clear hK K' b10 HR9 HS9 HWT9
          try simp only [Act.put, List.getElem_toArray, List.getElem_cons_zero, List.getElem_cons_succ, List.setIfInBounds_toArray, List.set_cons_zero, List.set_cons_succ]
          refine any_take (i := 10) (v := ?_) rfl (by kernel_rfl) (fun _ _ _ h => h) (Or.inl ⟨by rfl, ?_⟩) ?_
          rotate_left
          · intro W
            go_simp
            try with_reducible rfl
          try simp only [Act.put, List.getElem_toArray, List.getElem_cons_zero, List.getElem_cons_succ, List.setIfInBounds_toArray, List.set_cons_zero, List.set_cons_succ]
          refine wpAny_done (by kernel_rfl) ?_ _
          go_wp2_with fail
          go_roundw
          case rel => exact ⟨k + 1, by go_num, by omega, HR10.out⟩
          case measure => simp [intOf]; omega
        | true =>
          have HQ : Hid (∀ L : List Tx, (rE t = false → L = []) → (rE t = true → L.Perm (Go.strKeys (setD (unsE day fx t))) ∧ L.Pairwise (fun x y => x ≤ y)) → L = putL [] (unsE day fx t)) := fun L _ h2 => needs_list (h2 HRE'.out.symm).1 (h2 HRE'.out.symm).2
          have hbd := (Below.refl w3.heap.size w3).drew
          have HNC := Lib.hid (rneedsX_any day fx a len cap t _ w3.drew (HRT.out.kept (Kept.of_below (HW3.out.trans (hbd.mono HW3.out.size)) [])) (HS2.out.kept (Kept.of_below (HR3.out.trans (hbd.mono HR3.out.size)) [])) (by have := HND.out HRE'.out.symm; omega))
          go_upto_region 9 with (fail)
          go_still_tail 6, (by kernel_rfl)
          change wpList _ _ _ _ _ w3.drew
          go_wp2_with fail
          go_at_call 43
          (with_reducible refine HNC.out.mono ?_)
          rintro y w4 ⟨⟨la, lc, rfl, hs, -⟩, b4⟩
          have HWT := Lib.hid hs
          have bb := hbd.trans b4
          have HR4 := Lib.hid (HR3.out.trans (bb.mono HR3.out.size))
          have HW4 := Lib.hid (HW3.out.trans (bb.mono HW3.out.size))
          clear hs bb b4 hbd HNC HR3 HW3 d0 v0 v1 v2' v3' e0 e1
          generalize putL [] (unsE day fx t) = LL at *
          go_upto_region 10 with (fail)
          have d0 : w4.cell? ⟨tb, 0, none⟩ = some (.slice (some ⟨bt, ot, none⟩) es.length cE) := (BT0.out.below HR4.out).cell 0
          have v0 := cell_up HV0.out.1 HW4.out
          have v1 := cell_up HV0.out.2.1 HW4.out
          have v2' := cell_up HV0.out.2.2.1 HW4.out
          have v3' := cell_up HV0.out.2.2.2 HW4.out
          obtain ⟨e0, e1, -, -⟩ := (BX2.out.below HR4.out).two
          go_upto_region 10 with (fail)
          refine wp_region_till (S := fun W => W.cell? ⟨tb, 0, none⟩ = some (.slice (some ⟨bt, ot, none⟩) es.length cE) ∧ (W.cell? ⟨bt, ot + k * 4, none⟩ = some (.int .i64 o5) ∧ W.cell? ⟨bt, ot + k * 4 + 1, none⟩ = some (.int .i64 n5) ∧ W.cell? ⟨bt, ot + k * 4 + 2, none⟩ = some (.string m5) ∧ W.cell? ⟨bt, ot + k * 4 + 3, none⟩ = some (.slice a5 l5 p5)) ∧ (W.cell? ⟨w.heap.size, 0, none⟩ = some (.int .i64 day) ∧ W.cell? ⟨w.heap.size, 1, none⟩ = some (.slice a len cap))) 9 (by kernel_rfl) ?_
          refine till_take (i := 0) (v := ?_) rfl (by kernel_rfl) (fun _ _ _ h => h) (Or.inl ⟨by rfl, ?_⟩) ⟨d0,⟨v0,v1,v2',v3'⟩,⟨e0,e1⟩⟩ ?_
          rotate_left
          · intro W hS
            try dsimp only at hS
            go_split_ands
            go_simp
            try with_reducible rfl
          try simp only [Act.put, List.getElem_toArray, List.getElem_cons_zero, List.getElem_cons_succ, List.setIfInBounds_toArray, List.set_cons_zero, List.set_cons_succ]
          refine till_take (i := 1) (v := ?_) rfl (by kernel_rfl) (fun _ _ _ h => h) (Or.inl ⟨by rfl, ?_⟩) ⟨d0,⟨v0,v1,v2',v3'⟩,⟨e0,e1⟩⟩ ?_
          rotate_left
          · intro W hS
            try dsimp only at hS
            go_split_ands
            go_simp
            try with_reducible rfl
          try simp only [Act.put, List.getElem_toArray, List.getElem_cons_zero, List.getElem_cons_succ, List.setIfInBounds_toArray, List.set_cons_zero, List.set_cons_succ]
          refine till_take (i := 2) (v := ?_) rfl (by kernel_rfl) (fun _ _ _ h => h) (Or.inl ⟨by rfl, ?_⟩) ⟨d0,⟨v0,v1,v2',v3'⟩,⟨e0,e1⟩⟩ ?_
          rotate_left
          · intro W hS
            try dsimp only at hS
            go_split_ands
            go_simp
            try with_reducible rfl
          try simp only [Act.put, List.getElem_toArray, List.getElem_cons_zero, List.getElem_cons_succ, List.setIfInBounds_toArray, List.set_cons_zero, List.set_cons_succ]
          refine till_take (i := 3) (v := ?_) rfl (by kernel_rfl) (fun _ _ _ h => h) (Or.inl ⟨by rfl, ?_⟩) ⟨d0,⟨v0,v1,v2',v3'⟩,⟨e0,e1⟩⟩ ?_
          rotate_left
          · intro W hS
            try dsimp only at hS
            go_split_ands
            go_simp
            try with_reducible rfl
          try simp only [Act.put, List.getElem_toArray, List.getElem_cons_zero, List.getElem_cons_succ, List.setIfInBounds_toArray, List.set_cons_zero, List.set_cons_succ]
          refine till_take (i := 4) (v := ?_) rfl (by kernel_rfl) (fun _ _ _ h => h) (Or.inl ⟨by rfl, ?_⟩) ⟨d0,⟨v0,v1,v2',v3'⟩,⟨e0,e1⟩⟩ ?_
          rotate_left
          · intro W hS
            try dsimp only at hS
            go_split_ands
            go_simp
            try with_reducible rfl
          try simp only [Act.put, List.getElem_toArray, List.getElem_cons_zero, List.getElem_cons_succ, List.setIfInBounds_toArray, List.set_cons_zero, List.set_cons_succ]
          refine till_take (i := 5) (v := ?_) rfl (by kernel_rfl) (fun _ _ _ h => h) (Or.inl ⟨by rfl, ?_⟩) ⟨d0,⟨v0,v1,v2',v3'⟩,⟨e0,e1⟩⟩ ?_
          rotate_left
          · intro W hS
            try dsimp only at hS
            go_split_ands
            go_simp
            try with_reducible rfl
          try simp only [Act.put, List.getElem_toArray, List.getElem_cons_zero, List.getElem_cons_succ, List.setIfInBounds_toArray, List.set_cons_zero, List.set_cons_succ]
          refine till_take (i := 8) (v := ?_) rfl (by kernel_rfl) (fun _ _ _ h => h) (Or.inl ⟨by rfl, ?_⟩) ⟨d0,⟨v0,v1,v2',v3'⟩,⟨e0,e1⟩⟩ ?_
          rotate_left
          · intro W hS
            try dsimp only at hS
            go_split_ands
            go_simp
            try with_reducible rfl
          try simp only [Act.put, List.getElem_toArray, List.getElem_cons_zero, List.getElem_cons_succ, List.setIfInBounds_toArray, List.set_cons_zero, List.set_cons_succ]
          refine till_one (i := 6) (by kernel_rfl) rfl (fun K' hK => ?_)
          go_simp
          have hd8 := (Below.refl w4.heap.size w4).drew
          go_at_call 36
          (with_reducible refine (env_any day fx a len cap _ (HS2.out.kept (Kept.of_below (HR4.out.trans (hd8.mono HR4.out.size)) [])) hlen).mono ?_)
          rintro y w8 ⟨⟨a8, p8, rfl, hV⟩, b8⟩
          have bt := hd8.trans (b8.mono hd8.size)
          have HR8 := Lib.hid (HR4.out.trans (bt.mono HR4.out.size))
          have HW8 := Lib.hid (HW4.out.trans (bt.mono HW4.out.size))
          have HV8 := Lib.hid hV
          have HWT8 := Lib.hid (HWT.out.kept (Kept.of_below bt []))
          replace d0 := cell_up d0 bt
          replace v0 := cell_up v0 bt
          replace v1 := cell_up v1 bt
          replace v2' := cell_up v2' bt
          replace v3' := cell_up v3' bt
          replace e0 := cell_up e0 bt
          replace e1 := cell_up e1 bt
          refine hK _ _ ⟨d0,⟨v0,v1,v2',v3'⟩,⟨e0,e1⟩⟩ ?_
          clear hK K' b8 bt hd8 hV
          try simp only [Act.put, List.getElem_toArray, List.getElem_cons_zero, List.getElem_cons_succ, List.setIfInBounds_toArray, List.set_cons_zero, List.set_cons_succ]
          refine till_one (i := 7) (by kernel_rfl) rfl (fun K' hK => ?_)
          go_simp
          go_at_call 45
          (with_reducible refine (needsX_any day fx a8 _ p8 t _ w8 (HRT.out.kept (Kept.of_below HW8.out [])) (by have := HRt.out; omega) HV8.out).mono ?_)
          rintro y w9 ⟨⟨a9, c9, L9, rfl, hs9, h91, h92⟩, b9⟩
          have HL9 := (HQ.out L9 h91 h92).symm
          subst HL9
          have HR9 := Lib.hid (HR8.out.trans (b9.mono HR8.out.size))
          have HWT9 := Lib.hid (HWT8.out.kept (Kept.of_below b9 []))
          have HS9 := Lib.hid hs9
          replace d0 := cell_up d0 b9
          replace v0 := cell_up v0 b9
          replace v1 := cell_up v1 b9
          replace v2' := cell_up v2' b9
          replace v3' := cell_up v3' b9
          replace e0 := cell_up e0 b9
          replace e1 := cell_up e1 b9
          refine hK _ _ ⟨d0,⟨v0,v1,v2',v3'⟩,⟨e0,e1⟩⟩ ?_
          clear hK K' b9 HR8 HW8 HV8 HWT8 hs9 h91 h92 d0 v0 v1 v2' v3' e0 e1
          try simp only [Act.put, List.getElem_toArray, List.getElem_cons_zero, List.getElem_cons_succ, List.setIfInBounds_toArray, List.set_cons_zero, List.set_cons_succ]
          refine till_last (by kernel_rfl) rfl (by kernel_rfl) (fun K' hK => ?_)
          go_simp
          go_at_call 44
          refine (sames_any _ _ _ _ _ _ _ HS9.out HWT9.out).mono ?_
          rintro y w10 ⟨rfl, b10⟩
          have HR10 := Lib.hid (HR9.out.trans (b10.mono HR9.out.size))
          refine hK _ _ ?_
          clear hK K' b10 HR9 HS9 HWT9
          try simp only [Act.put, List.getElem_toArray, List.getElem_cons_zero, List.getElem_cons_succ, List.setIfInBounds_toArray, List.set_cons_zero, List.set_cons_succ]
          refine any_take (i := 10) (v := ?_) rfl (by kernel_rfl) (fun _ _ _ h => h) (Or.inl ⟨by rfl, ?_⟩) ?_
          rotate_left
          · intro W
            go_simp
            try with_reducible rfl
          try simp only [Act.put, List.getElem_toArray, List.getElem_cons_zero, List.getElem_cons_succ, List.setIfInBounds_toArray, List.set_cons_zero, List.set_cons_succ]
          refine wpAny_done (by kernel_rfl) ?_ _
          go_wp2_with fail
          go_roundw
          case rel => exact ⟨k + 1, by go_num, by omega, HR10.out⟩
          case measure => simp [intOf]; omega
      · have hk' : ¬ (k : Int) < (es.length : Int) := by omega
        have HB := Lib.hid (HB2.out.trans (HR.out.mono HB2.out.size))
        clear HR hlt
        go_wp2_with fail
        go_at_call 34
        (with_reducible refine (awake22_any _).mono ?_)
        rintro e w9 ⟨rfl, b9⟩
        have HB9 := Lib.hid (HB.out.trans (b9.mono HB.out.size))
        clear b9
        go_wp2_with fail
        go_ret
        exact ⟨rfl, HB9.out⟩
end Go.Proofs.Ytppnmeobnilojaa
