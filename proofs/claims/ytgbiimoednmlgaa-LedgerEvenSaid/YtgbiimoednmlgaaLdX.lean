/- The walk of Post. -/
import Derived.Test.YtgbiimoednmlgaaLdW
namespace Go.Proofs.Ytgbiimoednmlgaa
set_option linter.unusedVariables false
set_option linter.unusedSimpArgs false
open Go.RowKit
/-- Where Post's handing out stands. -/
structure OuSt (w wr : World) (ve : Value) (es : List Ent) (v : Value) (k : Nat) : Prop where
  en : EnAt w.heap.size wr ve es
  bel : Below w.heap.size w wr
  out : wr.ownsRow w.heap.size 51 3 v (outA (es.take k)).length (outR (outA (es.take k)))
  fit : ∀ (j : Nat) e, j < k → es[j]? = some e → fits64 e.all.sum = true
theorem outR_append (a b : List Acct) : outR (a ++ b) = outR a ++ outR b := by unfold outR; rw [List.map_append, List.flatten_append]
theorem outR_one (a : Acct) : outR [a] = acctC a := by unfold outR; simp
set_option maxRecDepth 100000 in
set_option maxHeartbeats 8000000 in
theorem post_any (l : List Acct) (m : List Mv) (la : Option Addr) (ll lc : Nat) (ma : Option Addr) (ml mc : Nat) (w : World) (hl : SlR acctK w [] l la ll lc) (hm : SlR mvK w [] m ma ml mc) (hll : ll ≤ 1000) (hml : ml ≤ 1000) :
    Calls Try.prog 12 #[.slice la ll lc, .slice ma ml mc] w fun x w' => PostR w' l m x ∧ Below w.heap.size w w' := by
  have HS := Lib.hid hl
  have HM := Lib.hid hm
  have HLL := Lib.hid hl.facts.1
  have HML := Lib.hid hm.facts.1
  have HLB := Lib.hid hll
  have HMB := Lib.hid hml
  have HRT := Lib.hid (right_any l la ll lc w hl (by omega))
  clear hl hm hll hml
  have HPR : Hid (∀ W (e : Int), Verd l m [] e → PostR W l m (.returned (.tuple #[.slice none 0 0, .int .i64 e]))) := fun W e hv => ⟨[], none, 0, e, rfl, SlR.nil _ _ _, hv, Nat.zero_le _⟩
  go_enter Try.func12, Try.ntmps12
  go_wp2_with fail
  go_at_call 22
  (with_reducible refine HRT.out.mono ?_)
  rintro x w1 ⟨rfl, b1⟩
  have HB1 := Lib.hid b1
  clear b1 HRT
  cases hr : rightA l with
  | false =>
    have HV : Hid (Verd l m [] 1) := .inl ⟨rfl, rfl, fun h => by rw [hr] at h; cases h.1⟩
    clear hr
    go_wp2_with fail
    go_ret2
    exact ⟨HPR.out _ _ HV.out, HB1.out⟩
  | true =>
    have HRR := Lib.hid hr
    have HCM := Lib.hid (containsM_any m ma ml mc w1 (HM.out.kept (Kept.of_below HB1.out [])) (by have := HMB.out; omega))
    clear hr
    go_wp2_with fail
    go_at_call 33
    (with_reducible refine HCM.out.mono ?_)
    rintro x w2 ⟨rfl, b2⟩
    have HB2 := Lib.hid (HB1.out.trans (b2.mono HB1.out.size))
    clear b2 HCM
    cases hmm : m.all mayM with
    | false =>
      have HV : Hid (Verd l m [] 1) := .inl ⟨rfl, rfl, fun h => by rw [hmm] at h; cases h.2⟩
      clear hmm
      go_wp2_with fail
      go_ret2
      exact ⟨HPR.out _ _ HV.out, HB2.out⟩
    | true =>
      have HMM := Lib.hid hmm
      clear hmm
      go_upto_region 4 with (fail)
      go_wp2_with fail
      go_loopw [6, 25] (fun v i wr => ∃ (k : Nat) (es : List Ent) (va : Option Addr) (vc : Nat), v = .slice va es.length vc ∧ i = .int .i64 (k : Nat) ∧ k ≤ ll ∧ Hid (GaSt w wr (.slice va es.length vc) es (conA (l.take k)))) (fun _ i _ => ll - (intOf i).toNat)
      case atStart => exact ⟨0, [], none, 0, rfl, rfl, Nat.zero_le _, ⟨EnAt.nil _ _, LsE.nil, fun c => rfl, HB2.out⟩⟩
      case round =>
        obtain ⟨k, es, va, vc, rfl, rfl, hk, HG⟩ := hrel
        by_cases hlt : k < ll
        · have hlt' : (k : Int) < (ll : Int) := by omega
          have i0 : (0 : Int) ≤ (k : Int) := by omega
          have i1 : (k : Int) ≤ 1000 := by have := HLB.out; omega
          have HSR := Lib.hid (HS.out.kept (Kept.of_below HG.out.bel []))
          obtain ⟨b, o, x, rfl, hx, hok, u0, u1, u2⟩ := acct_at HSR.out k hlt
          have HX := Lib.hid hx
          have HOK := Lib.hid hok
          have HKL := Lib.hid hlt
          have hal := (Below.refl wr.heap.size wr).alloc (Nat.le_refl _) (.cells #[.string x.party, .string x.coin, .int .i64 x.amt] 51)
          have HEA := Lib.hid (HG.out.en.below hal)
          have HBA := Lib.hid (HG.out.bel.trans (hal.mono HG.out.bel.size))
          have HLN : Hid (es.length ≤ 900000 ∧ ∀ e ∈ es, e.all.length ≤ 900000) := by
            have h1 := HG.out.ls.len
            rw [conA_len, List.length_take] at h1
            have h2 := HLB.out
            have h3 := HLL.out
            exact ⟨by omega, fun e he => by have := h1.2 e he; omega⟩
          have HPU : Hid (Calls Try.prog 36 #[.slice va es.length vc, .agg #[.string x.party, .string x.coin, .int .i64 x.amt]] _ _) := put_any w.heap.size _ es x _ HEA.out HBA.out.size HLN.out.1 HLN.out.2 ⟨hok.party, hok.coin⟩
          have BZ := Lib.hid (Mem.Blk.new wr 51 #[.string x.party, .string x.coin, .int .i64 x.amt])
          clear hx hok hlt hal HSR
          go_upto_region 7 with (fail)
          generalize wr.heap.size = zb at *
          generalize wr.alloc (.cells #[.string x.party, .string x.coin, .int .i64 x.amt] 51) = w3 at *
          clear u0 u1 u2
          have z0 : w3.cell? ⟨zb, 0, none⟩ = some (.string x.party) := BZ.out.cell 0
          have z1 : w3.cell? ⟨zb, 1, none⟩ = some (.string x.coin) := BZ.out.cell 1
          have z2 : w3.cell? ⟨zb, 2, none⟩ = some (.int .i64 x.amt) := BZ.out.cell 2
          go_wp2_with fail
          go_at_call 36
          (with_reducible refine HPU.out.mono ?_)
          rintro y w4 ⟨⟨v4, es4, rfl, he4, hp4⟩, b4, -⟩
          have hlc := hp4.next HG.out.ls HG.out.co HOK.out.amt
          rw [← conA_take HX.out] at hlc
          obtain ⟨va4, vc4, rfl⟩ := own_slice he4.row
          have HG4 : Hid (GaSt w w4 (.slice va4 es4.length vc4) es4 (conA (l.take (k + 1)))) := ⟨he4, hlc.1, hlc.2, HBA.out.trans b4⟩
          clear he4 hp4 b4 hlc HPU HEA HBA HG HLN z0 z1 z2 BZ
          go_wp2_with fail
          go_roundw
          case rel => exact ⟨k + 1, es4, va4, vc4, rfl, by go_num, by have := HKL.out; omega, HG4.out⟩
          case measure => simp [intOf]; have := HKL.out; omega
        · have hlt' : ¬ (k : Int) < (ll : Int) := by omega
          have hke : l.take k = l := List.take_of_length_le (by rw [HLL.out]; omega)
          rw [hke] at HG
          have HG0 : Hid (GaSt w wr (.slice va es.length vc) es (conA l ++ conM (m.take 0))) := by
            have : conA l ++ conM (m.take 0) = conA l := by rw [List.take_zero]; exact List.append_nil _
            show GaSt _ _ _ _ _
            rw [this]; exact HG.out
          clear HG hke hlt
          go_upto_region 9 with (fail)
          have HMB1 := Lib.hid HG0.out.bel
          go_wp2_with fail
          go_loopw [6, 35] (fun v i wr => ∃ (k : Nat) (es : List Ent) (va : Option Addr) (vc : Nat), v = .slice va es.length vc ∧ i = .int .i64 (k : Nat) ∧ k ≤ ml ∧ Hid (GaSt w wr (.slice va es.length vc) es (conA l ++ conM (m.take k)))) (fun _ i _ => ml - (intOf i).toNat)
          case atStart => exact ⟨0, es, va, vc, rfl, rfl, Nat.zero_le _, HG0.out⟩
          case round =>
            clear HG0 HMB1
            obtain ⟨j, es5, va5, vc5, rfl, rfl, hj, HG⟩ := hrel
            by_cases hjt : j < ml
            · have hjt' : (j : Int) < (ml : Int) := by omega
              have j0 : (0 : Int) ≤ (j : Int) := by omega
              have j1 : (j : Int) ≤ 1000 := by have := HMB.out; omega
              have HSR := Lib.hid (HM.out.kept (Kept.of_below HG.out.bel []))
              obtain ⟨b, o, x, rfl, hx, hok, u0, u1, u2, u3⟩ := mv_at HSR.out j hjt
              have HX := Lib.hid hx
              have HOK := Lib.hid hok
              have HJL := Lib.hid hjt
              have hmay : mayM x = true := List.all_eq_true.1 HMM.out x (List.mem_of_getElem? hx)
              have HAM : Hid (1 ≤ x.amt ∧ x.amt ≤ 9223372036854775807) := by
                unfold mayM at hmay
                simp only [Bool.and_eq_true, decide_eq_true_iff] at hmay
                have := hok.amt
                unfold I64 at this
                exact ⟨hmay.2, by omega⟩
              have hneg : IntKind.i64.wrap (-x.amt) = -x.amt := IntWalk.i64_in _ (by have := HAM.out; omega)
              have hal := (Below.refl wr.heap.size wr).alloc (Nat.le_refl _) (.cells #[.string x.src, .string x.dst, .string x.coin, .int .i64 x.amt] 72)
              have HEA := Lib.hid (HG.out.en.below hal)
              have HBA := Lib.hid (HG.out.bel.trans (hal.mono HG.out.bel.size))
              have HLN : Hid (es5.length ≤ 890000 ∧ ∀ e ∈ es5, e.all.length ≤ 890000) := by
                have h1 := HG.out.ls.len
                rw [List.length_append, conA_len, conM_len, List.length_take] at h1
                have h2 := HLB.out
                have h3 := HLL.out
                have h4 := HMB.out
                have h5 := HML.out
                exact ⟨by omega, fun e he => by have := h1.2 e he; omega⟩
              have HPU : Hid (Calls Try.prog 36 #[.slice va5 es5.length vc5, .agg #[.string x.src, .string x.coin, .int .i64 (-x.amt)]] _ _) := put_any w.heap.size _ es5 ⟨x.src, x.coin, -x.amt⟩ _ HEA.out HBA.out.size (by have := HLN.out.1; omega) (fun e he => by have := HLN.out.2 e he; omega) ⟨hok.src, hok.coin⟩
              have BZ := Lib.hid (Mem.Blk.new wr 72 #[.string x.src, .string x.dst, .string x.coin, .int .i64 x.amt])
              clear hx hok hjt hal HSR hmay
              go_upto_region 12 with (fail)
              have HZB : Hid (wr.heap.size < (wr.alloc (.cells #[.string x.src, .string x.dst, .string x.coin, .int .i64 x.amt] 72)).heap.size) := BZ.out.lt
              generalize wr.heap.size = zb at *
              generalize wr.alloc (.cells #[.string x.src, .string x.dst, .string x.coin, .int .i64 x.amt] 72) = w3 at *
              clear u0 u1 u2 u3
              have z0 : w3.cell? ⟨zb, 0, none⟩ = some (.string x.src) := BZ.out.cell 0
              have z1 : w3.cell? ⟨zb, 1, none⟩ = some (.string x.dst) := BZ.out.cell 1
              have z2 : w3.cell? ⟨zb, 2, none⟩ = some (.string x.coin) := BZ.out.cell 2
              have z3 : w3.cell? ⟨zb, 3, none⟩ = some (.int .i64 x.amt) := BZ.out.cell 3
              go_wp2_with fail
              go_at_call 36
              (with_reducible refine HPU.out.mono ?_)
              rintro y w4 ⟨⟨v4, es4, rfl, he4, hp4⟩, b4, o4⟩
              have hlc := hp4.next HG.out.ls HG.out.co (show I64 (-x.amt) by have := HAM.out; unfold I64; omega)
              obtain ⟨va4, vc4, rfl⟩ := own_slice he4.row
              have BZ4 := Lib.hid (o4 _ _ _ BZ.out (by decide) (by decide))
              have HB4 := Lib.hid (HBA.out.trans b4)
              have HE4 := Lib.hid he4
              have HLC := Lib.hid hlc
              have HLN4 : Hid (es4.length ≤ 900000 ∧ ∀ e ∈ es4, e.all.length ≤ 900000) := by
                have h1 := HLC.out.1.len
                rw [List.length_append, List.length_append, conA_len, conM_len, List.length_take, List.length_singleton] at h1
                have h2 := HLB.out
                have h3 := HLL.out
                have h4 := HMB.out
                have h5 := HML.out
                exact ⟨by omega, fun e he => by have := h1.2 e he; omega⟩
              have HPU2 : Hid (Calls Try.prog 36 #[.slice va4 es4.length vc4, .agg #[.string x.dst, .string x.coin, .int .i64 x.amt]] _ _) := put_any w.heap.size _ es4 ⟨x.dst, x.coin, x.amt⟩ w4 HE4.out HB4.out.size HLN4.out.1 HLN4.out.2 ⟨HOK.out.dst, HOK.out.coin⟩
              clear he4 hp4 b4 o4 hlc HPU HEA HBA HG HLN HLN4 z0 z1 z2 z3 BZ hneg
              have z0 : w4.cell? ⟨zb, 0, none⟩ = some (.string x.src) := BZ4.out.cell 0
              have z1 : w4.cell? ⟨zb, 1, none⟩ = some (.string x.dst) := BZ4.out.cell 1
              have z2 : w4.cell? ⟨zb, 2, none⟩ = some (.string x.coin) := BZ4.out.cell 2
              have z3 : w4.cell? ⟨zb, 3, none⟩ = some (.int .i64 x.amt) := BZ4.out.cell 3
              go_wp2_with fail
              go_at_call 36
              (with_reducible refine HPU2.out.mono ?_)
              rintro y w5 ⟨⟨v5, es6, rfl, he5, hp5⟩, b5, -⟩
              have hlc := hp5.next HLC.out.1 HLC.out.2 HOK.out.amt
              obtain ⟨va6, vc6, rfl⟩ := own_slice he5.row
              have HG5 : Hid (GaSt w w5 (.slice va6 es6.length vc6) es6 (conA l ++ conM (m.take (j + 1)))) := by
                have e : conA l ++ conM (m.take (j + 1)) = conA l ++ conM (m.take j) ++ [(x.kf, -x.amt)] ++ [(x.kt, x.amt)] := by
                  rw [conM_take HX.out, List.append_assoc, List.append_assoc, List.append_assoc]
                show GaSt _ _ _ _ _
                rw [e]
                exact ⟨he5, hlc.1, hlc.2, HB4.out.trans b5⟩
              clear he5 hp5 b5 hlc HPU2 HE4 HB4 HLC z0 z1 z2 z3 BZ4
              go_wp2_with fail
              go_roundw
              case rel => exact ⟨j + 1, es6, va6, vc6, rfl, by go_num, by have := HJL.out; omega, HG5.out⟩
              case measure => simp [intOf]; have := HJL.out; omega
            · have hjt' : ¬ (j : Int) < (ml : Int) := by omega
              have hke : m.take j = m := List.take_of_length_le (by rw [HML.out]; omega)
              rw [hke] at HG
              clear hke hjt
              have HPO := Lib.hid (PostOut.of HG.out.ls HG.out.co)
              have HFI := Lib.hid HG.out.ls.fit
              have HLS := Lib.hid HG.out.ls
              have HEL : Hid (es5.length ≤ 900000 ∧ ∀ e ∈ es5, e.all.length ≤ 900000) := by
                have h1 := HG.out.ls.len
                rw [List.length_append, conA_len, conM_len] at h1
                have h2 := HLB.out
                have h3 := HLL.out
                have h4 := HMB.out
                have h5 := HML.out
                exact ⟨by omega, fun e he => by have := h1.2 e he; omega⟩
              have ht0 : outA (es5.take 0) = [] := by rw [List.take_zero]; rfl
              have HQ0 : Hid ((outA (es5.take 0)).length = 0 ∧ OuSt w wr (.slice va5 es5.length vc5) es5 (.slice none 0 0) 0) := by
                refine ⟨by rw [ht0]; rfl, ⟨HG.out.en, HG.out.bel, ?_, fun j e h => absurd h (Nat.not_lt_zero _)⟩⟩
                rw [ht0]
                exact World.ownsRow_nil _ _ _ _
              clear ht0 HG
              go_upto_region 16 with (fail)
              go_wp2_with fail
              go_loopw [11, 61] (fun v i wr => ∃ (k : Nat) (oa : Option Addr) (oc : Nat), v = .slice oa (outA (es5.take k)).length oc ∧ i = .int .i64 (k : Nat) ∧ k ≤ es5.length ∧ Hid (OuSt w wr (.slice va5 es5.length vc5) es5 (.slice oa (outA (es5.take k)).length oc) k)) (fun _ i _ => es5.length - (intOf i).toNat)
              case atStart => exact ⟨0, none, 0, by rw [HQ0.out.1], rfl, Nat.zero_le _, by show OuSt _ _ _ _ _ _; rw [HQ0.out.1]; exact HQ0.out.2⟩
              case round =>
                clear HQ0
                obtain ⟨k, oa, oc, rfl, rfl, hk, HQ⟩ := hrel
                by_cases hkt : k < es5.length
                · have hkt' : (k : Int) < (es5.length : Int) := by omega
                  have k0 : (0 : Int) ≤ (k : Int) := by omega
                  have k1 : (k : Int) ≤ 900000 := by have := HEL.out.1; omega
                  obtain ⟨g, cap, e, hv, he, c0, c1, c2, c3, -⟩ := HQ.out.en.at k hkt
                  injection hv with hv1 _ hv3
                  subst hv1
                  subst hv3
                  obtain ⟨aa, ac, hav⟩ := own_slice (HQ.out.en.each k e he)
                  rw [hav] at c3
                  have hal := (Below.refl wr.heap.size wr).alloc (Nat.le_refl _) (.cells #[.string e.party, .string e.coin, .int .i64 0, .slice aa e.all.length ac] 79)
                  have HE := Lib.hid he
                  have HKL := Lib.hid hkt
                  have HFT := Lib.hid HQ.out.fit
                  have HEA := Lib.hid (HQ.out.en.below hal)
                  have HOA := Lib.hid (own_below HQ.out.out hal)
                  have HBA := Lib.hid (HQ.out.bel.trans (hal.mono HQ.out.bel.size))
                  have BZ := Lib.hid (Mem.Blk.new wr 79 #[.string e.party, .string e.coin, .int .i64 0, .slice aa e.all.length ac])
                  have HIN := Lib.hid (sum_any e.all aa e.all.length ac _ (HEA.out.ints HLS.out he hav) (by have := HEL.out.2 e (List.mem_of_getElem? he); omega))
                  clear he hkt hal hav HQ
                  go_upto_region 19 with (fail)
                  generalize wr.heap.size = zb at *
                  generalize wr.alloc (.cells #[.string e.party, .string e.coin, .int .i64 0, .slice aa e.all.length ac] 79) = w3 at *
                  clear c0 c1 c2 c3
                  have z0 : w3.cell? ⟨zb, 0, none⟩ = some (.string e.party) := BZ.out.cell 0
                  have z1 : w3.cell? ⟨zb, 1, none⟩ = some (.string e.coin) := BZ.out.cell 1
                  have z3 : w3.cell? ⟨zb, 3, none⟩ = some (.slice aa e.all.length ac) := BZ.out.cell 3
                  go_wp2_with fail
                  go_at_call 37
                  (with_reducible refine HIN.out.mono ?_)
                  rintro y w4 ⟨rfl, rfl⟩
                  clear HIN
                  obtain ⟨n, hn⟩ : ∃ n, n = e.all.sum := ⟨_, rfl⟩
                  rw [← hn]
                  have HNS := Lib.hid hn
                  cases hf : fits64 n with
                  | false =>
                    have HV : Hid (Verd l m [] 2) := .inr ⟨HRR.out, HMM.out, .inl ⟨rfl, rfl, fun h => by
                      have h1 := HFI.out.1 h e (List.mem_of_getElem? HE.out)
                      rw [← hn, hf] at h1; cases h1⟩⟩
                    clear hf hn
                    go_wp2_with fail
                    go_ret2
                    exact ⟨HPR.out _ _ HV.out, HBA.out⟩
                  | true =>
                    have HF := Lib.hid hf
                    rw [if_pos rfl]
                    by_cases hz : n = 0
                    · have hz' : (n == 0) = true := by simpa using hz
                      have hT : outA (es5.take (k + 1)) = outA (es5.take k) := by rw [outA_take HE.out, ← hn, if_pos hz, List.append_nil]
                      have HQ1 : Hid (Value.slice oa (outA (es5.take k)).length oc = Value.slice oa (outA (es5.take (k + 1))).length oc ∧ OuSt w w3 (.slice (some ⟨g, 0, none⟩) es5.length vc5) es5 (.slice oa (outA (es5.take (k + 1))).length oc) (k + 1)) := by
                        show _ ∧ _
                        rw [hT]
                        refine ⟨rfl, ⟨HEA.out, HBA.out, by rw [hT]; exact HOA.out, fun j f hj hjf => ?_⟩⟩
                        rcases Nat.lt_succ_iff_lt_or_eq.1 hj with h | h
                        · exact HFT.out j f h hjf
                        · rw [h, HE.out] at hjf
                          injection hjf with hjf
                          rw [← hjf, ← hn]; exact HF.out
                      subst hz
                      clear hT hn hf hz' HNS
                      go_wp2_with fail
                      go_roundw
                      case rel => exact ⟨k + 1, oa, oc, HQ1.out.1, by go_num, by have := HKL.out; omega, HQ1.out.2⟩
                      case measure => simp [intOf]; have := HKL.out; omega
                    · have hz' : (n == 0) = false := by simpa using hz
                      have hT : outA (es5.take (k + 1)) = outA (es5.take k) ++ [⟨e.party, e.coin, n⟩] := by rw [outA_take HE.out, ← hn, if_neg hz]
                      have HT := Lib.hid hT
                      have HOL : Hid ((outA (es5.take k)).length + 1 ≤ maxLen ∧ ((outA (es5.take k)).length + 1) * 40 ≤ 140737488355328 ∧ w.heap.size ≤ w3.heap.size) := by
                        have hmx : maxLen = 9223372036854775807 := by decide
                        have h1 := outA_len (es5.take k)
                        rw [List.length_take] at h1
                        have h2 := HEL.out.1
                        exact ⟨by omega, by omega, HBA.out.size⟩
                      clear hT hn hf hz
                      have hal := (Below.refl w3.heap.size w3).alloc (Nat.le_refl _) (.cells #[.string e.party, .string e.coin, .int .i64 n] 51)
                      have HEB := Lib.hid (HEA.out.below hal)
                      have HOB := Lib.hid (own_below HOA.out hal)
                      have HBB := Lib.hid (HBA.out.trans (hal.mono HBA.out.size))
                      have HSB : Hid (w.heap.size ≤ (w3.alloc (.cells #[.string e.party, .string e.coin, .int .i64 n] 51)).heap.size) := HBB.out.size
                      clear hal
                      go_upto_region 24 with (at_builtin; refine ap_row infoA Try.underlying26 rfl (by decide) rfl (.tmp 75) (.tmp 84) rfl rfl HOB.out HSB.out ⟨w3.heap.size, 0, none⟩ 1 1 [.string e.party, .string e.coin, .int .i64 n] rfl rfl (lit_cells_at w3 #[.string e.party, .string e.coin, .int .i64 n] 51 _ rfl) (by simp [Value.oneCell']) HOL.out.1 HOL.out.2.1 ?_; intro v1 w5 o1 g1 hv1; have HO5 := Lib.hid o1; have HG5 := Lib.hid g1; clear o1 g1 hv1)
                      have HQ1 : Hid (∃ a5 c5, v1 = Value.slice a5 (outA (es5.take (k + 1))).length c5 ∧ OuSt w w5 (.slice (some ⟨g, 0, none⟩) es5.length vc5) es5 (.slice a5 (outA (es5.take (k + 1))).length c5) (k + 1)) := by
                        have ho := HO5.out
                        obtain ⟨a5, c5, rfl⟩ := own_slice ho
                        have hlen : (outA (es5.take (k + 1))).length = (outA (es5.take k)).length + 1 := by rw [HT.out, List.length_append]; rfl
                        refine ⟨a5, c5, by rw [hlen], ⟨HEB.out.grown HOB.out (by decide) (by decide) HG5.out, HBB.out.grown HG5.out HSB.out (fun b hb => (own_lt HOB.out hb).1), ?_, fun j f hj hjf => ?_⟩⟩
                        · rw [hlen, HT.out, outR_append, outR_one]; exact ho
                        · rcases Nat.lt_succ_iff_lt_or_eq.1 hj with h | h
                          · exact HFT.out j f h hjf
                          · rw [h, HE.out] at hjf
                            injection hjf with hjf
                            rw [← hjf, ← HNS.out]; exact HF.out
                      obtain ⟨a5, c5, rfl, HQ5⟩ : ∃ a5 c5, v1 = Value.slice a5 (outA (es5.take (k + 1))).length c5 ∧ Hid (OuSt w w5 (.slice (some ⟨g, 0, none⟩) es5.length vc5) es5 (.slice a5 (outA (es5.take (k + 1))).length c5) (k + 1)) := HQ1.out
                      clear HQ1 HO5 HG5 HEB HOB HBB HSB z0 z1 z3 hz'
                      go_wp2_with fail
                      go_roundw
                      case rel => exact ⟨k + 1, a5, c5, rfl, by go_num, by have := HKL.out; omega, HQ5.out⟩
                      case measure => simp [intOf]; have := HKL.out; omega
                · have hkt' : ¬ (k : Int) < (es5.length : Int) := by omega
                  have hke : es5.take k = es5 := List.take_of_length_le (by omega)
                  rw [hke] at HQ ⊢
                  have HEND : Hid (∃ a c, Value.slice oa (outA es5).length oc = .slice a (outA es5).length c ∧ SlR acctK wr [] (outA es5) a (outA es5).length c) := by
                    have ho := HQ.out.out
                    rw [hke] at ho
                    refine outR_slR ho HQ.out.bel (fun a ha => ?_)
                    unfold outA at ha
                    rw [List.mem_filterMap] at ha
                    obtain ⟨e, he, hea⟩ := ha
                    obtain ⟨j, hj, hje⟩ := List.mem_iff_getElem.1 he
                    have hje' : es5[j]? = some e := by rw [List.getElem?_eq_getElem hj, hje]
                    have hft := HQ.out.fit j e (by have := hkt; omega) hje'
                    split at hea
                    · cases hea
                    · injection hea with hea
                      subst hea
                      have hs := HQ.out.en.siz e he
                      exact ⟨hs.1, hs.2, by unfold fits64 at hft; simp only [Bool.and_eq_true, decide_eq_true_iff] at hft; unfold I64; show _ ≤ e.all.sum ∧ e.all.sum ≤ _; omega⟩
                  have HV : Hid (Verd l m (outA es5) 0) := .inr ⟨HRR.out, HMM.out, .inr ⟨rfl, HFI.out.2 (fun e he => by
                    obtain ⟨j, hj, hje⟩ := List.mem_iff_getElem.1 he
                    exact HQ.out.fit j e (by have := hkt; omega) (by rw [List.getElem?_eq_getElem hj, hje])), HPO.out⟩⟩
                  have HBE := Lib.hid HQ.out.bel
                  have HLO : Hid ((outA es5).length ≤ l.length + 2 * m.length) := by
                    have h1 := HLS.out.len.1
                    rw [List.length_append, conA_len, conM_len] at h1
                    have h2 := outA_len es5
                    show _ ≤ _; omega
                  clear HQ hke hkt
                  go_wp2_with fail
                  go_ret2
                  refine ⟨?_, HBE.out⟩
                  obtain ⟨a, c, hac, hs⟩ := HEND.out
                  exact ⟨outA es5, a, c, 0, by rw [hac]; rfl, hs, HV.out, HLO.out⟩
end Go.Proofs.Ytgbiimoednmlgaa
