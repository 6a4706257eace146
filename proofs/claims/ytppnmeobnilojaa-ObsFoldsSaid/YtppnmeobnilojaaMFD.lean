/- A part of the proof: Env, Awk22, LawF, Lst, LawW2, OpenV, one behind another. -/
import Derived.Test.YtppnmeobnilojaaMAA
import Derived.Test.YtppnmeobnilojaaMAB
import Derived.Test.YtppnmeobnilojaaMAC
import Derived.Test.YtppnmeobnilojaaMAD
import Derived.Test.YtppnmeobnilojaaMAE
import Derived.Test.YtppnmeobnilojaaMAF
import Derived.Test.YtppnmeobnilojaaMAG
import Derived.Test.YtppnmeobnilojaaMAH
import Derived.Test.YtppnmeobnilojaaMFA
import Derived.Test.YtppnmeobnilojaaMFB
import Derived.Test.YtppnmeobnilojaaMFC
/- The contract of law22.env: what is seen, as the program has it. -/
namespace Go.Proofs.Ytppnmeobnilojaa
set_option linter.unusedVariables false
set_option linter.unusedSimpArgs false
open Go.RowKit
theorem infoF : (Try.prog.info? 83).map (fun i => (i.zero, i.size, i.bytes)) = some (some (.agg #[.string ⟨#[]⟩, .int .i64 0, .int .i64 0]), 3, 32) := by kernel_rfl
def famV (h : Nat) (day : Int) (a : Option Addr) (len cap : Nat) (fs : List Fx) (vA : Value) : List Ob :=
  [gr fxK 83 h fs vA, bx (h + 1 + 1) 63 #[.int .i64 day, vA], bx (h + 1) 63 #[.int .i64 0, .slice none 0 0], bx h 58 #[.int .i64 day, .slice a len cap]]
structure EnvJ (w wr : World) (day : Int) (a : Option Addr) (len cap : Nat) (fs : List Fx) (vA : Value) : Prop where
  below : Below w.heap.size w wr
  sep : Sep wr (famV w.heap.size day a len cap fs vA)
section
variable {w wr wr' : World} {day : Int} {a : Option Addr} {len cap : Nat} {fs : List Fx} {vA : Value}
theorem EnvJ.up (h : EnvJ w wr day a len cap fs vA) (hb : Below wr.heap.size wr wr') : EnvJ w wr' day a len cap fs vA := ⟨h.below.trans (hb.mono h.below.size), h.sep.below hb⟩
theorem EnvJ.push {w1 : World} {csl : List (List Value)} {v' : Value} {x : Fx} {c : List Value} (h : EnvJ w wr day a len cap fs vA)
    (hG : Grow fxK 83 w.heap.size wr (others (famV w.heap.size day a len cap fs vA) 0) fs vA csl)
    (hR : fxK.R wr (owns (famV w.heap.size day a len cap fs vA)) x c)
    (ho : w1.ownsRow w.heap.size 83 3 v' (fs.length + 1) (csl.flatten ++ c)) (hg : wr.grownBy w1 vA.ownBlock) (hv : v'.ownBlock = vA.ownBlock ∨ v'.ownBlock = some wr.heap.size) :
    (w1.cell? ⟨w.heap.size + 1 + 1, 1, none⟩ = some vA ∧ w1.frozen? ⟨w.heap.size + 1 + 1, 1, none⟩ = false) ∧ EnvJ w (w1.setCell ⟨w.heap.size + 1 + 1, 1, none⟩ v') day a len cap (fs ++ [x]) v' := by
  have h1 := h.sep.push 0 rfl hG (x := x) (c := c) hR ho hg hv
  have h2 := h1.store 1 rfl 1 v'
  exact ⟨⟨(h1.blk 1 rfl).cell 1, (h1.blk 1 rfl).frozen 1⟩, (h.below.grown hg h.below.size (fun b hb => (hG.blt hb).1)).setCell (by show w.heap.size ≤ w.heap.size + 1 + 1; omega) _, h2⟩
/-- What was copied, stored where the answer lies. -/
theorem EnvJ.fin {aA : Option Addr} {cA : Nat} (h : EnvJ w wr day a len cap fs (.slice aA fs.length cA)) :
    SlR fxK ((wr.setCell ⟨w.heap.size + 1, 0, none⟩ (.int .i64 day)).setCell ⟨w.heap.size + 1, 1, none⟩ (.slice aA fs.length cA)) [] fs aA fs.length cA ∧
    Below w.heap.size w ((wr.setCell ⟨w.heap.size + 1, 0, none⟩ (.int .i64 day)).setCell ⟨w.heap.size + 1, 1, none⟩ (.slice aA fs.length cA)) ∧
    Mem.Blk ((wr.setCell ⟨w.heap.size + 1, 0, none⟩ (.int .i64 day)).setCell ⟨w.heap.size + 1, 1, none⟩ (.slice aA fs.length cA)) (w.heap.size + 1) 63 #[.int .i64 day, .slice aA fs.length cA] := by
  have h1 := (h.sep.store 2 rfl 0 (.int .i64 day)).store 2 rfl 1 (.slice aA fs.length cA)
  obtain ⟨a', c', e, hS⟩ := h1.still 0 rfl
  injection e with e1 e2 e3; subst e1; subst e3
  have hl : w.heap.size ≤ w.heap.size + 1 := by omega
  exact ⟨hS.free, (h.below.setCell hl _).setCell hl _, h1.blk 2 rfl⟩
end
theorem EnvJ.start {w : World} {day : Int} {a : Option Addr} {len cap : Nat} : EnvJ w (((w.alloc (.cells #[.int .i64 day, .slice a len cap] 58)).alloc (.cells #[.int .i64 0, .slice none 0 0] 63)).alloc (.cells #[.int .i64 day, .slice none 0 0] 63)) day a len cap [] (.slice none 0 0) := by
  have h1 := (((Sep.nil w).new 58 #[.int .i64 day, .slice a len cap]).new 63 #[.int .i64 0, .slice none 0 0]).new 63 #[.int .i64 day, .slice none 0 0]
  have e1 : (w.alloc (.cells #[.int .i64 day, .slice a len cap] 58)).heap.size = w.heap.size + 1 := by simp
  have e2 : ((w.alloc (.cells #[.int .i64 day, .slice a len cap] 58)).alloc (.cells #[.int .i64 0, .slice none 0 0] 63)).heap.size = w.heap.size + 1 + 1 := by simp
  rw [e1, e2] at h1
  exact ⟨(((Below.refl _ w).alloc (Nat.le_refl _) _).alloc (by simp) _).alloc (by simp; omega) _, h1.addGr fxK 83 (by simp; omega)⟩
/-- What is seen, answered. -/
def RetVs (w : World) (day : Int) (fs : List Fx) (x : Ending) : Prop := ∃ a cap, x = .returned (.agg #[.int .i64 day, .slice a fs.length cap]) ∧ SlR fxK w [] fs a fs.length cap
set_option maxRecDepth 100000 in
set_option maxHeartbeats 2000000 in
theorem env_any (day : Int) (fx : List Fx) (a : Option Addr) (len cap : Nat) (w : World) (hS : SlR fxK w [] fx a len cap) (h2 : len ≤ 200) :
    Calls Try.prog 36 #[.agg #[.int .i64 day, .slice a len cap]] w fun x w' => RetVs w' day fx x ∧ Below w.heap.size w w' := by
  obtain ⟨f1, f2, f3⟩ := hS.facts
  have HL := Lib.hid f1
  have HSS := Lib.hid hS
  have HR0 := Lib.hid (EnvJ.start (w := w) (day := day) (a := a) (len := len) (cap := cap))
  clear hS f1
  go_enter Try.func36, Try.ntmps36
  go_upto_region 2 with (fail)
  generalize ((w.alloc (.cells #[.int .i64 day, .slice a len cap] 58)).alloc (.cells #[.int .i64 0, .slice none 0 0] 63)).alloc (.cells #[.int .i64 day, .slice none 0 0] 63) = v at *
  go_wp2_with fail
  go_loopw [4] (fun i wr => ∃ (k : Nat) (vA : Value), i = .int .i64 (k : Nat) ∧ k ≤ len ∧ Hid (EnvJ w wr day a len cap (fx.take k) vA)) (fun i _ => len - (intOf i).toNat)
  case atStart => exact ⟨0, _, rfl, Nat.zero_le _, HR0.out⟩
  case round =>
    clear HR0
    obtain ⟨k, vA, rfl, hk, HR⟩ := hrel
    obtain ⟨e0, e1, -, -⟩ := (HR.out.sep.blk 3 rfl).two
    have hlk : (fx.take k).length = k := by rw [List.length_take, HL.out]; omega
    have HLK := Lib.hid hlk
    by_cases hlt : k < len
    · have j1' : (k : Int) < (len : Int) := by omega
      obtain ⟨b, o, f, rfl, -, -, hxe, hsz, q1, q2, u0, u1, u2⟩ := fx_at (HSS.out.kept (Kept.of_below HR.out.below [])) k hlt
      have HTK : Hid (fx.take (k + 1) = fx.take k ++ [f]) := by
        show fx.take (k + 1) = _
        obtain ⟨hk', he⟩ := List.getElem?_eq_some_iff.1 hxe
        rw [← he]; exact (List.take_append_getElem hk').symm
      have HFX : Hid (f.name.size ≤ 9223372036854775807 ∧ I64 f.day ∧ I64 f.val) := ⟨hsz, q1, q2⟩
      clear hxe hlk hsz q1 q2
      have d1 : wr.cell? ⟨w.heap.size + 1 + 1, 1, none⟩ = some vA := (HR.out.sep.blk 1 rfl).cell 1
      generalize fx.take k = FS at *
      go_wp2_with fail
      refine wp_region_till (S := fun W => W.cell? ⟨w.heap.size + 1 + 1, 1, none⟩ = some vA ∧ W.cell? ⟨w.heap.size, 1, none⟩ = some (.slice (some ⟨b, o, none⟩) len cap) ∧ W.cell? ⟨b, o + k * 3, none⟩ = some (.string f.name) ∧ W.cell? ⟨b, o + k * 3 + 1, none⟩ = some (.int .i64 f.day) ∧ W.cell? ⟨b, o + k * 3 + 2, none⟩ = some (.int .i64 f.val)) 8 (by kernel_rfl) ?_
      refine till_take (i := 0) (v := ?_) rfl (by kernel_rfl) (fun _ _ _ h => h) (Or.inl ⟨by rfl, ?_⟩) ⟨d1,e1,u0,u1,u2⟩ ?_
      rotate_left
      · intro W hS
        try dsimp only at hS
        go_split_ands
        go_simp
        try with_reducible rfl
      try simp only [Act.put, List.getElem_toArray, List.getElem_cons_zero, List.getElem_cons_succ, List.setIfInBounds_toArray, List.set_cons_zero, List.set_cons_succ]
      refine till_take (i := 1) (v := ?_) rfl (by kernel_rfl) (fun _ _ _ h => h) (Or.inl ⟨by rfl, ?_⟩) ⟨d1,e1,u0,u1,u2⟩ ?_
      rotate_left
      · intro W hS
        try dsimp only at hS
        go_split_ands
        go_simp
        try with_reducible rfl
      try simp only [Act.put, List.getElem_toArray, List.getElem_cons_zero, List.getElem_cons_succ, List.setIfInBounds_toArray, List.set_cons_zero, List.set_cons_succ]
      refine till_take (i := 2) (v := ?_) rfl (by kernel_rfl) (fun _ _ _ h => h) (Or.inl ⟨by rfl, ?_⟩) ⟨d1,e1,u0,u1,u2⟩ ?_
      rotate_left
      · intro W hS
        try dsimp only at hS
        go_split_ands
        go_simp
        try with_reducible rfl
      try simp only [Act.put, List.getElem_toArray, List.getElem_cons_zero, List.getElem_cons_succ, List.setIfInBounds_toArray, List.set_cons_zero, List.set_cons_succ]
      refine till_take (i := 3) (v := ?_) rfl (by kernel_rfl) (fun _ _ _ h => h) (Or.inl ⟨by rfl, ?_⟩) ⟨d1,e1,u0,u1,u2⟩ ?_
      rotate_left
      · intro W hS
        try dsimp only at hS
        go_split_ands
        go_simp
        try with_reducible rfl
      try simp only [Act.put, List.getElem_toArray, List.getElem_cons_zero, List.getElem_cons_succ, List.setIfInBounds_toArray, List.set_cons_zero, List.set_cons_succ]
      refine till_take (i := 4) (v := ?_) rfl (by kernel_rfl) (fun _ _ _ h => h) (Or.inl ⟨by rfl, ?_⟩) ⟨d1,e1,u0,u1,u2⟩ ?_
      rotate_left
      · intro W hS
        try dsimp only at hS
        go_split_ands
        go_simp
        try with_reducible rfl
      try simp only [Act.put, List.getElem_toArray, List.getElem_cons_zero, List.getElem_cons_succ, List.setIfInBounds_toArray, List.set_cons_zero, List.set_cons_succ]
      refine till_take (i := 5) (v := ?_) rfl (by kernel_rfl) (fun _ _ _ h => h) (Or.inl ⟨by rfl, ?_⟩) ⟨d1,e1,u0,u1,u2⟩ ?_
      rotate_left
      · intro W hS
        try dsimp only at hS
        go_split_ands
        go_simp
        try with_reducible rfl
      try simp only [Act.put, List.getElem_toArray, List.getElem_cons_zero, List.getElem_cons_succ, List.setIfInBounds_toArray, List.set_cons_zero, List.set_cons_succ]
      refine till_take (i := 6) (v := ?_) rfl (by kernel_rfl) (fun _ _ _ h => h) (Or.inl ⟨by rfl, ?_⟩) ⟨d1,e1,u0,u1,u2⟩ ?_
      rotate_left
      · intro W hS
        try dsimp only at hS
        go_split_ands
        go_simp
        try with_reducible rfl
      try simp only [Act.put, List.getElem_toArray, List.getElem_cons_zero, List.getElem_cons_succ, List.setIfInBounds_toArray, List.set_cons_zero, List.set_cons_succ]
      refine till_one (i := 7) (by kernel_rfl) rfl (fun K' hK => ?_)
      go_simp
      have hbn := below_new wr (.cells #[.string f.name, .int .i64 f.day, .int .i64 f.val] 83)
      have HB2 := Lib.hid (HR.out.up hbn)
      have BZ := Lib.hid (Mem.Blk.new wr 83 #[.string f.name, .int .i64 f.day, .int .i64 f.val]).drew
      refine hK _ _ ⟨cell_up d1 hbn, cell_up e1 hbn, cell_up u0 hbn, cell_up u1 hbn, cell_up u2 hbn⟩ ?_
      clear hK K' hbn HR d1 e0 e1 u0 u1 u2
      generalize (wr.alloc (.cells #[.string f.name, .int .i64 f.day, .int .i64 f.val] 83)).drew = w2 at *
      generalize wr.heap.size = z at *
      try simp only [Act.put, List.getElem_toArray, List.getElem_cons_zero, List.getElem_cons_succ, List.setIfInBounds_toArray, List.set_cons_zero, List.set_cons_succ]
      refine till_last (by kernel_rfl) rfl (by kernel_rfl) (fun K' hK => ?_)
      obtain ⟨csl, hGr⟩ := HB2.out.sep.at 0 rfl
      refine step_ap infoF Try.underlying61 rfl (by decide) rfl (.tmp 16) (.tmp 22) rfl rfl hGr.own hGr.room ⟨z, 0, none⟩ 1 1 [.string f.name, .int .i64 f.day, .int .i64 f.val] rfl rfl (fun m u hm => by rw [Mem.add0, BZ.out.cell]; simpa using hm) (by simp [Value.oneCell']) (by have := HLK.out; unfold maxLen; omega) (by have := HLK.out; omega) ?_
      intro v' w3 og gg hv'
      obtain ⟨g2, capn, rfl, -, -, -, -⟩ := own_form og (by omega)
      refine hK _ _ ?_
      clear hK K'
      obtain ⟨⟨m4, m5⟩, hB3⟩ := HB2.out.push hGr (x := f) (c := fxC f) ⟨rfl, HFX.out⟩ og gg hv'
      have HB3 := Lib.hid hB3
      clear HB2 hGr og gg hv' BZ hB3
      try simp only [Act.put, List.getElem_toArray, List.getElem_cons_zero, List.getElem_cons_succ, List.setIfInBounds_toArray, List.set_cons_zero, List.set_cons_succ]
      refine any_take (i := 9) (v := ?_) rfl (by kernel_rfl) (fun _ _ _ h => h) (Or.inl ⟨by rfl, ?_⟩) ?_
      rotate_left
      · intro W
        go_simp
        try with_reducible rfl
      try simp only [Act.put, List.getElem_toArray, List.getElem_cons_zero, List.getElem_cons_succ, List.setIfInBounds_toArray, List.set_cons_zero, List.set_cons_succ]
      refine any_one (i := 10) (by kernel_rfl) rfl (fun K' hK => ?_)
      go_simp
      refine hK _ _ ?_
      clear hK K' m4 m5
      refine wpAny_done (by kernel_rfl) ?_ _
      rw [← HTK.out] at HB3
      generalize FS.length = ln at *
      obtain rfl : ln = k := HLK.out
      go_wp2_with fail
      go_roundw
      case rel => exact ⟨ln + 1, _, by go_num, by omega, HB3.out⟩
      case measure => simp [intOf]; omega
    · have hk' : ¬ (k : Int) < (len : Int) := by omega
      obtain rfl : k = len := by omega
      have hfk : fx.take k = fx := List.take_of_length_le (by rw [HL.out]; omega)
      rw [hfk] at HR
      obtain ⟨a', cA, rfl, hSv⟩ := HR.out.sep.still 0 rfl
      have HFN := Lib.hid HR.out.fin
      obtain ⟨s0, s1, s2, s3⟩ := (HR.out.sep.blk 1 rfl).two
      obtain ⟨t0, t1, t2, t3⟩ := (HR.out.sep.blk 2 rfl).two
      have hm := (HR.out.sep.blk 2 rfl).lt
      clear hSv HR hfk hlk HLK
      have hfl := HL.out
      clear HL
      subst hfl
      go_wp2_with fail
      generalize (wr.setCell ⟨w.heap.size + 1, 0, none⟩ (.int .i64 day)).setCell ⟨w.heap.size + 1, 1, none⟩ (.slice a' fx.length cA) = W9 at *
      obtain ⟨r0, r1, -, -⟩ := HFN.out.2.2.two
      refine bodyPost_ret (v := .agg #[.int .i64 day, .slice a' fx.length cA]) (by simp [results, Try.results36, go_sem, r0, r1]) rfl ⟨⟨a', cA, rfl, HFN.out.1⟩, HFN.out.2.1⟩
end Go.Proofs.Ytppnmeobnilojaa

/- The law's own example of chapter 22. -/
namespace Go.Proofs.Ytppnmeobnilojaa
set_option linter.unusedVariables false
set_option linter.unusedSimpArgs false
open Go.RowKit
def spx : ByteArray := ⟨#[83, 80, 88]⟩
def seeE : Ex := .mk 16 0 ⟨#[]⟩ [.mk 3 0 spx [], .mk 1 100 ⟨#[]⟩ []]
def dayE : Ex := .mk 15 0 ⟨#[]⟩ [.mk 4 0 ⟨#[]⟩ [], .mk 2 19723 ⟨#[]⟩ []]
def bothE : Ex := .mk 17 0 ⟨#[]⟩ [seeE, dayE]
theorem bothE_built : bE bothE = true := by kernel_rfl
theorem bothE_right : rE bothE = true := by
  have h : rE bothE = (decide (bothE.nd ≤ 200 ∧ bothE.rk ≤ 16) && bE bothE) := rfl
  rw [h, bothE_built]
  decide
theorem bothE_kind : kI bothE = 2 := by
  have h : kI bothE = if rE bothE then kE bothE else 0 := rfl
  have h2 : kE bothE = 2 := by kernel_rfl
  rw [h, bothE_right, h2]; rfl
theorem bothE_5 : evalX 5 [] bothE = .tru false := by
  unfold evalX
  rw [bothE_kind, if_neg (by decide)]
  simp [bothE, seeE, dayE, evalE_mk, evO, opV, bothV, seenV, seenF, twoV, cmpV, Vl.N]
theorem bothE_on : evalX 19723 [] bothE = .unk := by
  unfold evalX
  rw [bothE_kind, if_neg (by decide)]
  simp [bothE, seeE, dayE, evalE_mk, evO, opV, bothV, seenV, seenF, twoV, cmpV, Vl.N]
theorem lit_two {w : World} {x y : Ex} {c d : List Value} {cs : Array Value} {op n : Int} (hcs : cs.toList = c ++ d) (hx : RepE w [] x c) (hy : RepE w [] y d) (ho : I64 op) (hn : I64 n) :
    RepE ((w.alloc (.cells cs 46)).alloc (.cells #[.int .i64 op, .int .i64 n, .string ⟨#[]⟩, .slice (some ⟨w.heap.size, 0, none⟩) 2 2] 46)) [] (.mk op n ⟨#[]⟩ [x, y]) [.int .i64 op, .int .i64 n, .string ⟨#[]⟩, .slice (some ⟨w.heap.size, 0, none⟩) 2 2] ∧
    Mem.Blk ((w.alloc (.cells cs 46)).alloc (.cells #[.int .i64 op, .int .i64 n, .string ⟨#[]⟩, .slice (some ⟨w.heap.size, 0, none⟩) 2 2] 46)) (w.heap.size + 1) 46 #[.int .i64 op, .int .i64 n, .string ⟨#[]⟩, .slice (some ⟨w.heap.size, 0, none⟩) 2 2] ∧
    Below w.heap.size w ((w.alloc (.cells cs 46)).alloc (.cells #[.int .i64 op, .int .i64 n, .string ⟨#[]⟩, .slice (some ⟨w.heap.size, 0, none⟩) 2 2] 46)) := by
  have h1 := Mem.Blk.new w 46 cs
  have h2 := Mem.Blk.new (w.alloc (.cells cs 46)) 46 #[.int .i64 op, .int .i64 n, .string ⟨#[]⟩, .slice (some ⟨w.heap.size, 0, none⟩) 2 2]
  have e1 : (w.alloc (.cells cs 46)).heap.size = w.heap.size + 1 := by simp
  have hb := ((Below.refl w.heap.size w).alloc (Nat.le_refl _) (.cells cs 46)).alloc (by rw [e1]; omega) (.cells #[.int .i64 op, .int .i64 n, .string ⟨#[]⟩, .slice (some ⟨w.heap.size, 0, none⟩) 2 2] 46)
  rw [e1] at h2
  exact ⟨RepE.mk' ho hn (by decide) (SlR.lit2 (K := exK) (h1.alloc _) hcs (by simp) (hx.kept (Kept.of_below hb [])) (hy.kept (Kept.of_below hb []))).slE, h2, hb⟩
theorem leaf_rep {w : World} {X : List Nat} (op n : Int) (nm : ByteArray) (ho : I64 op) (hn : I64 n) (hs : nm.size ≤ 9223372036854775807) : RepE w X (.mk op n nm []) [.int .i64 op, .int .i64 n, .string nm, .slice none 0 0] := RepE.mk' ho hn hs (SlE.nil _ _)
set_option maxRecDepth 100000 in
set_option maxHeartbeats 2000000 in
theorem awake22_any (w : World) : Calls Try.prog 34 #[] w fun x w' => x = .returned (.bool true) ∧ Below w.heap.size w w' := by
  have L1 := Lib.hid (lit_two (w := w) (cs := #[.int .i64 3, .int .i64 0, .string spx, .slice none 0 0, .int .i64 1, .int .i64 100, .string ⟨#[]⟩, .slice none 0 0]) (op := 16) (n := 0) rfl (leaf_rep 3 0 spx (by unfold I64; omega) (by unfold I64; omega) (by decide)) (leaf_rep 1 100 ⟨#[]⟩ (by unfold I64; omega) (by unfold I64; omega) (by decide)) (by unfold I64; omega) (by unfold I64; omega))
  unfold spx at L1
  go_enter Try.func34, Try.ntmps34
  go_upto_region 2 with (fail)
  generalize (w.alloc (.cells #[.int .i64 3, .int .i64 0, .string ⟨#[83, 80, 88]⟩, .slice none 0 0, .int .i64 1, .int .i64 100, .string ⟨#[]⟩, .slice none 0 0] 46)).alloc (.cells #[.int .i64 16, .int .i64 0, .string ⟨#[]⟩, .slice (some ⟨w.heap.size, 0, none⟩) 2 2] 46) = v1 at *
  have L2 := Lib.hid (lit_two (w := v1) (cs := #[.int .i64 4, .int .i64 0, .string ⟨#[]⟩, .slice none 0 0, .int .i64 2, .int .i64 19723, .string ⟨#[]⟩, .slice none 0 0]) (op := 15) (n := 0) rfl (leaf_rep 4 0 ⟨#[]⟩ (by unfold I64; omega) (by unfold I64; omega) (by decide)) (leaf_rep 2 19723 ⟨#[]⟩ (by unfold I64; omega) (by unfold I64; omega) (by decide)) (by unfold I64; omega) (by unfold I64; omega))
  go_upto_region 3 with (fail)
  generalize (v1.alloc (.cells #[.int .i64 4, .int .i64 0, .string ⟨#[]⟩, .slice none 0 0, .int .i64 2, .int .i64 19723, .string ⟨#[]⟩, .slice none 0 0] 46)).alloc (.cells #[.int .i64 15, .int .i64 0, .string ⟨#[]⟩, .slice (some ⟨v1.heap.size, 0, none⟩) 2 2] 46) = v2 at *
  have L3 := Lib.hid (lit_two (w := v2) (cs := #[.int .i64 16, .int .i64 0, .string ⟨#[]⟩, .slice (some ⟨w.heap.size, 0, none⟩) 2 2, .int .i64 15, .int .i64 0, .string ⟨#[]⟩, .slice (some ⟨v1.heap.size, 0, none⟩) 2 2]) (op := 17) (n := 0) rfl (L1.out.1.kept (Kept.of_below L2.out.2.2 [])) L2.out.1 (by unfold I64; omega) (by unfold I64; omega))
  have HB := Lib.hid (L1.out.2.2.trans (L2.out.2.2.mono L1.out.2.2.size))
  have HB1 := Lib.hid (HB.out.trans (L3.out.2.2.mono HB.out.size))
  obtain ⟨a0, a1, a2, a3, -, -, -, -⟩ := blk4 (L1.out.2.1.below L2.out.2.2)
  obtain ⟨b0, b1, b2, b3, -, -, -, -⟩ := blk4 L2.out.2.1
  go_upto_region 4 with (fail)
  generalize (v2.alloc (.cells #[.int .i64 16, .int .i64 0, .string ⟨#[]⟩, .slice (some ⟨w.heap.size, 0, none⟩) 2 2, .int .i64 15, .int .i64 0, .string ⟨#[]⟩, .slice (some ⟨v1.heap.size, 0, none⟩) 2 2] 46)).alloc (.cells #[.int .i64 17, .int .i64 0, .string ⟨#[]⟩, .slice (some ⟨v2.heap.size, 0, none⟩) 2 2] 46) = v3 at *
  have RB : Hid (∀ W, Below v3.heap.size v3 W → RepE W [] bothE [.int .i64 17, .int .i64 0, .string ⟨#[]⟩, .slice (some ⟨v2.heap.size, 0, none⟩) 2 2]) := fun W hW => RepE.kept L3.out.1 (Kept.of_below hW [])
  have BB := Lib.hid L3.out.2.1
  clear L1 L2 L3 HB a0 a1 a2 a3 b0 b1 b2 b3
  generalize v2.heap.size = z at *
  obtain ⟨a0, a1, a2, a3, -, -, -, -⟩ := blk4 BB.out
  go_wp2_with fail
  go_at_call 41
  (with_reducible refine (obsEval_any 5 [] none 0 0 bothE _ v3 (by unfold I64; omega) (RB.out v3 (Below.refl _ _)) (by decide) (SlR.nil _ _ _)).mono ?_)
  rintro x w1 ⟨hx, e1⟩
  rw [bothE_5] at hx
  have hx' : x = .returned (.agg #[.int .i64 2, .int .i64 0, .bool false]) := hx
  subst hx'
  have BB1 := Lib.hid (BB.out.below e1)
  have HB2 := Lib.hid (HB1.out.trans (e1.mono HB1.out.size))
  have RB1 := Lib.hid (RB.out w1 e1)
  clear hx e1 BB HB1 RB a0 a1 a2 a3
  obtain ⟨a0, a1, a2, a3, -, -, -, -⟩ := blk4 BB1.out
  go_wp2_with fail
  go_at_call 41
  (with_reducible refine (obsEval_any 19723 [] none 0 0 bothE _ w1 (by unfold I64; omega) RB1.out (by decide) (SlR.nil _ _ _)).mono ?_)
  rintro x w2 ⟨hx, e1⟩
  rw [bothE_on] at hx
  have hx' : x = .returned (.agg #[.int .i64 0, .int .i64 0, .bool false]) := hx
  subst hx'
  have HB3 := Lib.hid (HB2.out.trans (e1.mono HB2.out.size))
  clear hx e1
  go_wp2_with fail
  go_ret
  exact ⟨rfl, HB3.out⟩
end Go.Proofs.Ytppnmeobnilojaa

/- The walk of CheckFolded, for any leaves. -/
namespace Go.Proofs.Ytppnmeobnilojaa
set_option linter.unusedVariables false
set_option linter.unusedSimpArgs false
open Go.RowKit
theorem rE_mk {t : Ex} (h : rE t = true) : bE t = true ∧ t.nd ≤ 200 ∧ t.rk ≤ 16 := by
  have e : rE t = (decide (t.nd ≤ 200 ∧ t.rk ≤ 16) && bE t) := rfl
  rw [e, Bool.and_eq_true, decide_eq_true_eq] at h
  exact ⟨h.2, h.1.1, h.1.2⟩
theorem rE_of {t : Ex} (h : bE t = true) (h1 : t.nd ≤ 200) (h2 : t.rk ≤ 16) : rE t = true := by
  have e : rE t = (decide (t.nd ≤ 200 ∧ t.rk ≤ 16) && bE t) := rfl
  rw [e, Bool.and_eq_true, decide_eq_true_eq]
  exact ⟨⟨h1, h2⟩, h⟩
theorem fold_right {t : Ex} (h : rE t = true) : rE (foldE t) = true := by
  obtain ⟨h1, h2, h3⟩ := rE_mk h
  have := foldE_size t h1
  exact rE_of (foldE_built t h1) (by omega) (by omega)
set_option maxRecDepth 100000 in
set_option maxHeartbeats 4000000 in
theorem checkFolded_any (lfs : List Lf) (a : Option Addr) (len cap : Nat) (w : World) (h1 : SlR lfK w [] lfs a len cap) :
    Calls Try.prog 7 #[.slice a len cap] w fun e w' => e = .returned (.bool true) ∧ Below w.heap.size w w' := by
  have HBU := Lib.hid (build_any lfs [] a none len cap 0 0 w h1 (SlR.nil _ _ _))
  clear h1
  go_enter Try.func7, Try.ntmps7
  go_wp2_with fail
  go_at_call 13
  (with_reducible refine (great21_any _ _ _ _ _ _ _).mono ?_)
  rintro e w' ⟨rfl, rfl⟩
  by_cases hg : 60 < len ∨ 60 < 0
  · rw [decide_eq_true hg]
    clear hg HBU
    go_wp2_with fail
    go_at_call 14
    (with_reducible refine (awake21_any _).mono ?_)
    rintro e w1 ⟨rfl, b1⟩
    have HB1 := Lib.hid b1
    clear b1
    go_wp2_with fail
    go_ret
    exact ⟨rfl, HB1.out⟩
  · rw [decide_eq_false hg]
    clear hg
    go_wp2_with fail
    go_at_call 15
    (with_reducible refine HBU.out.mono ?_)
    rintro e w1 ⟨⟨es, ts, cs, rfl, hT, hle, -, hrk, -⟩, b1⟩
    obtain ⟨aE, cE, aN, cN, aD, cD, aT, cT, aM, cM, aP, cP, hcs, h4, -⟩ := id hT
    have hal := (Below.refl w1.heap.size w1).alloc (Nat.le_refl _) (.cells #[.slice aE es.length cE, .slice aN (nds es).length cN, .slice aD (rks es).length cD, .slice aT ts.length cT, .slice aM (ndsT ts).length cM, .slice aP (rksT ts).length cP] 30)
    have HB0 := Lib.hid (b1.trans (hal.mono b1.size))
    have HT0 := Lib.hid (hT.kept (Kept.of_below hal []))
    have BT0 := Lib.hid (Mem.Blk.new w1 30 #[.slice aE es.length cE, .slice aN (nds es).length cN, .slice aD (rks es).length cD, .slice aT ts.length cT, .slice aM (ndsT ts).length cM, .slice aP (rksT ts).length cP])
    have H4 := Lib.hid (h4.kept (Kept.of_below hal []))
    have HRK := Lib.hid hrk
    subst hcs
    clear hT b1 hrk HBU hal h4
    go_upto_region 4 with (fail)
    generalize w1.alloc (.cells #[.slice aE es.length cE, .slice aN (nds es).length cN, .slice aD (rks es).length cD, .slice aT ts.length cT, .slice aM (ndsT ts).length cM, .slice aP (rksT ts).length cP] 30) = v at *
    generalize w1.heap.size = tb at *
    have c0 : v.cell? ⟨tb, 0, none⟩ = _ := BT0.out.cell 0
    have c1 : v.cell? ⟨tb, 1, none⟩ = _ := BT0.out.cell 1
    have c2 : v.cell? ⟨tb, 2, none⟩ = _ := BT0.out.cell 2
    have c3 : v.cell? ⟨tb, 3, none⟩ = _ := BT0.out.cell 3
    have c4 : v.cell? ⟨tb, 4, none⟩ = _ := BT0.out.cell 4
    have c5 : v.cell? ⟨tb, 5, none⟩ = _ := BT0.out.cell 5
    simp only [List.getElem?_toArray, List.getElem?_cons_zero, List.getElem?_cons_succ] at c0 c1 c2 c3 c4 c5
    rcases Nat.eq_zero_or_pos es.length with hz | hz
    · have hz' : ((es.length : Int) == 0) = true := by rw [hz]; rfl
      clear hz H4 HT0 BT0
      go_wp2_with fail
      go_at_call 14
      (with_reducible refine (awake21_any _).mono ?_)
      rintro e w3 ⟨rfl, b9⟩
      have HB9 := Lib.hid (HB0.out.trans (b9.mono HB0.out.size))
      clear b9
      go_wp2_with fail
      go_ret
      exact ⟨rfl, HB9.out⟩
    · obtain ⟨k, hk⟩ : ∃ k, es.length = k + 1 := ⟨es.length - 1, by omega⟩
      obtain ⟨t, ht⟩ : ∃ t, es[k]? = some t := ⟨_, List.getElem?_eq_getElem (by omega)⟩
      have HRE := Lib.hid (treeRightE_any HT0.out k ht (by have := HRK.out t (List.mem_of_getElem? ht); omega))
      obtain ⟨bt, ot, xt, ct, rfl, -, -, hxt, hRt, -, hct⟩ := H4.out.at k (by omega)
      obtain rfl : t = xt := by rw [ht] at hxt; injection hxt
      have HRT := Lib.hid (show RepE v [] t ct from hRt)
      obtain ⟨o5, n5, m5, r5, a5, l5, p5, -, rfl, -, -, -, -⟩ := HRT.out.inv
      have HCT : Hid (∀ j c, [.int .i64 o5, .int .i64 n5, .string m5, .slice a5 l5 p5][j]? = some c → v.cell? ⟨bt, ot + k * 4 + j, none⟩ = some c) := hct
      have hw : (es.length : Int) - 1 = (k : Int) := by omega
      have hk1 : ((es.length : Int) == 0) = false := beq_eq_false_iff_ne.2 (by omega)
      have hk2 : (0 : Int) ≤ (k : Int) := by omega
      have hk3 : (k : Int) < (es.length : Int) := by omega
      clear hxt hRt hct ht H4 hz hk
      go_wp2_with fail
      go_at_call 24
      (with_reducible refine HRE.out.mono ?_)
      rintro y w2 ⟨rfl, b2⟩
      have HW2 := Lib.hid b2
      clear b2 HRE c1 c2 c3 c4 c5
      cases hre : rE t
      · have HB2 := Lib.hid (HB0.out.trans (HW2.out.mono HB0.out.size))
        clear hre c0
        go_wp2_with fail
        go_at_call 14
        (with_reducible refine (awake21_any _).mono ?_)
        rintro e w3 ⟨rfl, b9⟩
        have HB9 := Lib.hid (HB2.out.trans (b9.mono HB2.out.size))
        clear b9
        go_wp2_with fail
        go_ret
        exact ⟨rfl, HB9.out⟩
      · have HX := Lib.hid hre
        clear hre
        have d0 := cell_up c0 HW2.out
        have v0 := cell_up (HCT.out 0 _ rfl) HW2.out
        have v1 := cell_up (HCT.out 1 _ rfl) HW2.out
        have v2 := cell_up (HCT.out 2 _ rfl) HW2.out
        have v3 := cell_up (HCT.out 3 _ rfl) HW2.out
        rw [Nat.add_zero] at v0
        have hal := (Below.refl w2.heap.size w2).alloc (Nat.le_refl _) (.cells #[.int .i64 o5, .int .i64 n5, .string m5, .slice a5 l5 p5] 46)
        have HR3 := Lib.hid ((HRT.out.kept (Kept.of_below HW2.out [])).kept (Kept.of_below hal []))
        have HB3 := Lib.hid (HB0.out.trans ((HW2.out.trans (hal.mono HW2.out.size)).mono HB0.out.size))
        have BX := Lib.hid (Mem.Blk.new w2 46 #[.int .i64 o5, .int .i64 n5, .string m5, .slice a5 l5 p5])
        clear hal HCT HRT HW2 HT0 BT0 HB0 HRK c0
        go_upto_region 8 with (fail)
        generalize w2.alloc (.cells #[.int .i64 o5, .int .i64 n5, .string m5, .slice a5 l5 p5] 46) = u at *
        generalize w2.heap.size = xb at *
        obtain ⟨hb, hnd, hrk16⟩ := rE_mk HX.out
        have hsz := foldE_size t hb
        have hFX : foldX t = foldE t := by unfold foldX; rw [if_pos HX.out]
        have hRY := fold_right HX.out
        have HRY := Lib.hid hRY
        have HKY := Lib.hid (show kI (foldE t) = kI t by
          have e1 : kI (foldE t) = if rE (foldE t) then kE (foldE t) else 0 := rfl
          have e2 : kI t = if rE t then kE t else 0 := rfl
          rw [e1, e2, hRY, HX.out, foldE_kind t hb])
        have HFY := Lib.hid (show foldX (foldE t) = foldE t by
          unfold foldX; rw [if_pos hRY]
          exact (foldE_twice t hb (RepE.nums t.rk t (Nat.le_refl _) _ HR3.out)).2)
        have HSZ := Lib.hid (show (if (foldE t).nd < 1000 then ((foldE t).nd : Int) else 1000) ≤ (if t.nd < 1000 then (t.nd : Int) else 1000) by rw [if_pos (by omega), if_pos (by omega)]; omega)
        have HRK := Lib.hid hrk16
        have HRKY : Hid ((foldE t).rk ≤ 16) := by show _ ≤ _; omega
        have HC := Lib.hid (foldX_any t [] _ u HR3.out (fun b hb => absurd hb List.not_mem_nil) (by omega))
        rw [hFX] at HC
        clear hb hnd hrk16 hsz hFX hRY HX
        generalize foldE t = Y at *
        obtain ⟨x0, x1, x2, x3, -, -, -, -⟩ := blk4 BX.out
        go_wp2_with fail
        go_at_call 28
        (with_reducible refine HC.out.mono ?_)
        rintro x w4 ⟨⟨cs4, rfl, hR4⟩, b4⟩
        obtain ⟨o7, n7, m7, r7, a7, l7, p7, -, rfl, -, -, -, -⟩ := hR4.inv
        have hal := (Below.refl w4.heap.size w4).alloc (Nat.le_refl _) (.cells #[.int .i64 o7, .int .i64 n7, .string m7, .slice a7 l7 p7] 46)
        have HR5 := Lib.hid ((HR3.out.kept (Kept.of_below b4 [])).kept (Kept.of_below hal []))
        have HY5 := Lib.hid (hR4.kept (Kept.of_below hal []))
        have HB5 := Lib.hid (HB3.out.trans ((b4.trans (hal.mono b4.size)).mono HB3.out.size))
        have BX5 := Lib.hid ((BX.out.below b4).below hal)
        have BY5 := Lib.hid (Mem.Blk.new w4 46 #[.int .i64 o7, .int .i64 n7, .string m7, .slice a7 l7 p7])
        clear hal b4 hR4 HC HR3 HB3 BX x0 x1 x2 x3
        go_upto_region 9 with (fail)
        generalize w4.alloc (.cells #[.int .i64 o7, .int .i64 n7, .string m7, .slice a7 l7 p7] 46) = u5 at *
        generalize w4.heap.size = yb at *
        obtain ⟨x0, x1, x2, x3, -, -, -, -⟩ := blk4 BX5.out
        go_wp2_with fail
        go_at_call 23
        (with_reducible refine (kindX_any t _ u5 HR5.out (by have := HRK.out; omega)).mono ?_)
        rintro x w6 ⟨rfl, b6⟩
        have HW6 := Lib.hid b6
        clear b6 x0 x1 x2 x3
        obtain ⟨y0, y1, y2, y3, -, -, -, -⟩ := blk4 (BY5.out.below HW6.out)
        go_wp2_with fail
        go_at_call 23
        (with_reducible refine (kindX_any Y _ w6 (HY5.out.kept (Kept.of_below HW6.out [])) (by have := HRKY.out; omega)).mono ?_)
        rintro x w7 ⟨rfl, b7⟩
        rw [HKY.out]
        have HW7 := Lib.hid (HW6.out.trans (b7.mono HW6.out.size))
        clear b7 y0 y1 y2 y3 HW6
        generalize kI t = ki at *
        obtain ⟨x0, x1, x2, x3, -, -, -, -⟩ := blk4 (BX5.out.below HW7.out)
        go_wp2_with fail
        go_at_call 32
        (with_reducible refine (sizeX_any t _ w7 (HR5.out.kept (Kept.of_below HW7.out [])) (by have := HRK.out; omega)).mono ?_)
        rintro x w8 ⟨rfl, b8⟩
        have HW8 := Lib.hid (HW7.out.trans (b8.mono HW7.out.size))
        clear b8 x0 x1 x2 x3 HW7
        generalize (if t.nd < 1000 then (t.nd : Int) else 1000) = sx at *
        generalize (if t.nd < 1000 then (t.rk : Int) else 1000) = sx' at *
        obtain ⟨y0, y1, y2, y3, -, -, -, -⟩ := blk4 (BY5.out.below HW8.out)
        go_wp2_with fail
        go_at_call 32
        (with_reducible refine (sizeX_any Y _ w8 (HY5.out.kept (Kept.of_below HW8.out [])) (by have := HRKY.out; omega)).mono ?_)
        rintro x w9 ⟨rfl, b9⟩
        have HW9 := Lib.hid (HW8.out.trans (b9.mono HW8.out.size))
        clear b9 y0 y1 y2 y3 HW8
        generalize (if Y.nd < 1000 then (Y.nd : Int) else 1000) = sy at *
        generalize (if Y.nd < 1000 then (Y.rk : Int) else 1000) = sy' at *
        have hss : sy ≤ sx := HSZ.out
        clear HSZ HKY HR5 BX5
        obtain ⟨y0, y1, y2, y3, -, -, -, -⟩ := blk4 (BY5.out.below HW9.out)
        go_wp2_with fail
        refine wp_region_till (S := fun W => W.cell? ⟨yb, 0, none⟩ = some (.int .i64 o7) ∧ W.cell? ⟨yb, 1, none⟩ = some (.int .i64 n7) ∧ W.cell? ⟨yb, 2, none⟩ = some (.string m7) ∧ W.cell? ⟨yb, 3, none⟩ = some (.slice a7 l7 p7)) 16 (by kernel_rfl) ?_
        refine till_take (i := 0) (v := ?_) rfl (by kernel_rfl) (fun _ _ _ h => h) (Or.inl ⟨by rfl, ?_⟩) ⟨y0,y1,y2,y3⟩ ?_
        rotate_left
        · intro W hS
          try dsimp only at hS
          go_split_ands
          go_simp
          try with_reducible rfl
        try simp only [Act.put, List.getElem_toArray, List.getElem_cons_zero, List.getElem_cons_succ, List.setIfInBounds_toArray, List.set_cons_zero, List.set_cons_succ]
        refine till_take (i := 1) (v := ?_) rfl (by kernel_rfl) (fun _ _ _ h => h) (Or.inl ⟨by rfl, ?_⟩) ⟨y0,y1,y2,y3⟩ ?_
        rotate_left
        · intro W hS
          try dsimp only at hS
          go_split_ands
          go_simp
          try with_reducible rfl
        try simp only [Act.put, List.getElem_toArray, List.getElem_cons_zero, List.getElem_cons_succ, List.setIfInBounds_toArray, List.set_cons_zero, List.set_cons_succ]
        refine till_take (i := 2) (v := ?_) rfl (by kernel_rfl) (fun _ _ _ h => h) (Or.inl ⟨by rfl, ?_⟩) ⟨y0,y1,y2,y3⟩ ?_
        rotate_left
        · intro W hS
          try dsimp only at hS
          go_split_ands
          go_simp
          try with_reducible rfl
        try simp only [Act.put, List.getElem_toArray, List.getElem_cons_zero, List.getElem_cons_succ, List.setIfInBounds_toArray, List.set_cons_zero, List.set_cons_succ]
        refine till_take (i := 3) (v := ?_) rfl (by kernel_rfl) (fun _ _ _ h => h) (Or.inl ⟨by rfl, ?_⟩) ⟨y0,y1,y2,y3⟩ ?_
        rotate_left
        · intro W hS
          try dsimp only at hS
          go_split_ands
          go_simp
          try with_reducible rfl
        try simp only [Act.put, List.getElem_toArray, List.getElem_cons_zero, List.getElem_cons_succ, List.setIfInBounds_toArray, List.set_cons_zero, List.set_cons_succ]
        refine till_take (i := 4) (v := ?_) rfl (by kernel_rfl) (fun _ _ _ h => h) (Or.inl ⟨by rfl, ?_⟩) ⟨y0,y1,y2,y3⟩ ?_
        rotate_left
        · intro W hS
          try dsimp only at hS
          go_split_ands
          go_simp
          try with_reducible rfl
        try simp only [Act.put, List.getElem_toArray, List.getElem_cons_zero, List.getElem_cons_succ, List.setIfInBounds_toArray, List.set_cons_zero, List.set_cons_succ]
        refine till_take (i := 5) (v := ?_) rfl (by kernel_rfl) (fun _ _ _ h => h) (Or.inl ⟨by rfl, ?_⟩) ⟨y0,y1,y2,y3⟩ ?_
        rotate_left
        · intro W hS
          try dsimp only at hS
          go_split_ands
          go_simp
          try with_reducible rfl
        try simp only [Act.put, List.getElem_toArray, List.getElem_cons_zero, List.getElem_cons_succ, List.setIfInBounds_toArray, List.set_cons_zero, List.set_cons_succ]
        refine till_take (i := 6) (v := ?_) rfl (by kernel_rfl) (fun _ _ _ h => h) (Or.inl ⟨by rfl, ?_⟩) ⟨y0,y1,y2,y3⟩ ?_
        rotate_left
        · intro W hS
          try dsimp only at hS
          go_split_ands
          go_simp
          try with_reducible rfl
        try simp only [Act.put, List.getElem_toArray, List.getElem_cons_zero, List.getElem_cons_succ, List.setIfInBounds_toArray, List.set_cons_zero, List.set_cons_succ]
        refine till_take (i := 7) (v := ?_) rfl (by kernel_rfl) (fun _ _ _ h => h) (Or.inl ⟨by rfl, ?_⟩) ⟨y0,y1,y2,y3⟩ ?_
        rotate_left
        · intro W hS
          try dsimp only at hS
          go_split_ands
          go_simp
          try with_reducible rfl
        try simp only [Act.put, List.getElem_toArray, List.getElem_cons_zero, List.getElem_cons_succ, List.setIfInBounds_toArray, List.set_cons_zero, List.set_cons_succ]
        refine till_take (i := 8) (v := ?_) rfl (by kernel_rfl) (fun _ _ _ h => h) (Or.inl ⟨by rfl, ?_⟩) ⟨y0,y1,y2,y3⟩ ?_
        rotate_left
        · intro W hS
          try dsimp only at hS
          go_split_ands
          go_simp
          try with_reducible rfl
        try simp only [Act.put, List.getElem_toArray, List.getElem_cons_zero, List.getElem_cons_succ, List.setIfInBounds_toArray, List.set_cons_zero, List.set_cons_succ]
        refine till_take (i := 9) (v := ?_) rfl (by kernel_rfl) (fun _ _ _ h => h) (Or.inl ⟨by rfl, ?_⟩) ⟨y0,y1,y2,y3⟩ ?_
        rotate_left
        · intro W hS
          try dsimp only at hS
          go_split_ands
          go_simp
          try with_reducible rfl
        try simp only [Act.put, List.getElem_toArray, List.getElem_cons_zero, List.getElem_cons_succ, List.setIfInBounds_toArray, List.set_cons_zero, List.set_cons_succ]
        refine till_one (i := 10) (by kernel_rfl) rfl (fun K' hK => ?_)
        go_simp
        go_at_call 33
        have HW9d := Lib.hid (HW9.out.drew)
        (with_reducible refine (rightExpr_any Y _ _ (HY5.out.kept (Kept.of_below HW9d.out [])) (by have := HRKY.out; omega)).mono ?_)
        rintro x w10 ⟨rfl, b10⟩
        rw [HRY.out]
        have HW10 := Lib.hid (HW9d.out.trans (b10.mono HW9d.out.size))
        clear b10 y0 y1 y2 y3 HW9 HW9d
        obtain ⟨y0, y1, y2, y3, -, -, -, -⟩ := blk4 (BY5.out.below HW10.out)
        refine hK _ _ ⟨y0,y1,y2,y3⟩ ?_
        clear hK K'
        try simp only [Act.put, List.getElem_toArray, List.getElem_cons_zero, List.getElem_cons_succ, List.setIfInBounds_toArray, List.set_cons_zero, List.set_cons_succ]
        refine till_take (i := 11) (v := ?_) rfl (by kernel_rfl) (fun _ _ _ h => h) (Or.inl ⟨by rfl, ?_⟩) ⟨y0,y1,y2,y3⟩ ?_
        rotate_left
        · intro W hS
          try dsimp only at hS
          go_split_ands
          go_simp
          try with_reducible rfl
        try simp only [Act.put, List.getElem_toArray, List.getElem_cons_zero, List.getElem_cons_succ, List.setIfInBounds_toArray, List.set_cons_zero, List.set_cons_succ]
        refine till_take (i := 12) (v := ?_) rfl (by kernel_rfl) (fun _ _ _ h => h) (Or.inl ⟨by rfl, ?_⟩) ⟨y0,y1,y2,y3⟩ ?_
        rotate_left
        · intro W hS
          try dsimp only at hS
          go_split_ands
          go_simp
          try with_reducible rfl
        try simp only [Act.put, List.getElem_toArray, List.getElem_cons_zero, List.getElem_cons_succ, List.setIfInBounds_toArray, List.set_cons_zero, List.set_cons_succ]
        refine till_take (i := 13) (v := ?_) rfl (by kernel_rfl) (fun _ _ _ h => h) (Or.inl ⟨by rfl, ?_⟩) ⟨y0,y1,y2,y3⟩ ?_
        rotate_left
        · intro W hS
          try dsimp only at hS
          go_split_ands
          go_simp
          try with_reducible rfl
        try simp only [Act.put, List.getElem_toArray, List.getElem_cons_zero, List.getElem_cons_succ, List.setIfInBounds_toArray, List.set_cons_zero, List.set_cons_succ]
        refine till_take (i := 15) (v := ?_) rfl (by kernel_rfl) (fun _ _ _ h => h) (Or.inl ⟨by rfl, ?_⟩) ⟨y0,y1,y2,y3⟩ ?_
        rotate_left
        · intro W hS
          try dsimp only at hS
          go_split_ands
          go_simp
          try with_reducible rfl
        try simp only [Act.put, List.getElem_toArray, List.getElem_cons_zero, List.getElem_cons_succ, List.setIfInBounds_toArray, List.set_cons_zero, List.set_cons_succ]
        refine till_one (i := 14) (by kernel_rfl) rfl (fun K' hK => ?_)
        go_simp
        go_at_call 28
        (with_reducible refine (foldX_any Y [] _ _ (HY5.out.kept (Kept.of_below HW10.out [])) (fun b hb => absurd hb List.not_mem_nil) (by have := HRKY.out; omega)).mono ?_)
        rintro x w11 ⟨⟨cs11, rfl, hR11⟩, b11⟩
        rw [HFY.out] at hR11
        obtain ⟨o8, n8, m8, r8, a8, l8, p8, -, rfl, -, -, -, -⟩ := hR11.inv
        have HR11 := Lib.hid hR11
        have HW11 := Lib.hid (HW10.out.trans (b11.mono HW10.out.size))
        clear b11 y0 y1 y2 y3 HW10 hR11
        obtain ⟨y0, y1, y2, y3, -, -, -, -⟩ := blk4 (BY5.out.below HW11.out)
        refine hK _ _ ⟨y0,y1,y2,y3⟩ ?_
        clear hK K'
        try simp only [Act.put, List.getElem_toArray, List.getElem_cons_zero, List.getElem_cons_succ, List.setIfInBounds_toArray, List.set_cons_zero, List.set_cons_succ]
        refine till_last (by kernel_rfl) rfl (by kernel_rfl) (fun K' hK => ?_)
        go_simp
        go_at_call 27
        (with_reducible refine (rsameExpr_any _ _ (Nat.le_refl _) _ _ _ _ HR11.out (HY5.out.kept (Kept.of_below HW11.out []))).mono ?_)
        rintro x w12 ⟨rfl, b12⟩
        rw [eqv_yes rfl]
        have HW12 := Lib.hid (HW11.out.trans (b12.mono HW11.out.size))
        clear b12 y0 y1 y2 y3 HW11 HR11
        refine hK _ _ ?_
        clear hK K'
        try simp only [Act.put, List.getElem_toArray, List.getElem_cons_zero, List.getElem_cons_succ, List.setIfInBounds_toArray, List.set_cons_zero, List.set_cons_succ]
        refine any_take (i := 17) (v := ?_) rfl (by kernel_rfl) (fun _ _ _ h => h) (Or.inl ⟨by rfl, ?_⟩) ?_
        rotate_left
        · intro W
          go_simp
          try with_reducible rfl
        try simp only [Act.put, List.getElem_toArray, List.getElem_cons_zero, List.getElem_cons_succ, List.setIfInBounds_toArray, List.set_cons_zero, List.set_cons_succ]
        refine any_take (i := 18) (v := ?_) rfl (by kernel_rfl) (fun _ _ _ h => h) (Or.inl ⟨by rfl, ?_⟩) ?_
        rotate_left
        · intro W
          go_simp
          try with_reducible rfl
        try simp only [Act.put, List.getElem_toArray, List.getElem_cons_zero, List.getElem_cons_succ, List.setIfInBounds_toArray, List.set_cons_zero, List.set_cons_succ]
        refine any_one (i := 19) (by kernel_rfl) rfl (fun K' hK => ?_)
        go_simp
        go_at_call 14
        (with_reducible refine (awake21_any _).mono ?_)
        rintro x w13 ⟨rfl, b13⟩
        have HB13 := Lib.hid (HB5.out.trans ((HW12.out.trans (b13.mono HW12.out.size)).mono HB5.out.size))
        clear b13 HW12 HB5
        refine hK _ _ ?_
        clear hK K'
        try simp only [Act.put, List.getElem_toArray, List.getElem_cons_zero, List.getElem_cons_succ, List.setIfInBounds_toArray, List.set_cons_zero, List.set_cons_succ]
        refine any_take (i := 20) (v := ?_) rfl (by kernel_rfl) (fun _ _ _ h => h) (Or.inl ⟨by rfl, ?_⟩) ?_
        rotate_left
        · intro W
          go_simp
          try with_reducible rfl
        try simp only [Act.put, List.getElem_toArray, List.getElem_cons_zero, List.getElem_cons_succ, List.setIfInBounds_toArray, List.set_cons_zero, List.set_cons_succ]
        refine any_take (i := 21) (v := ?_) rfl (by kernel_rfl) (fun _ _ _ h => h) (Or.inl ⟨by rfl, ?_⟩) ?_
        rotate_left
        · intro W
          go_simp
          try with_reducible rfl
        try simp only [Act.put, List.getElem_toArray, List.getElem_cons_zero, List.getElem_cons_succ, List.setIfInBounds_toArray, List.set_cons_zero, List.set_cons_succ]
        refine wpAny_done (by kernel_rfl) ?_ _
        go_wp2_with fail
        go_ret
        exact ⟨rfl, HB13.out⟩
end Go.Proofs.Ytppnmeobnilojaa

/- The contracts of law22.great and last. -/
namespace Go.Proofs.Ytppnmeobnilojaa
set_option linter.unusedVariables false
set_option linter.unusedSimpArgs false
open Go.RowKit
set_option maxHeartbeats 1000000 in
theorem great22_any (day : Int) (a a' : Option Addr) (len cap len' cap' : Nat) (w : World) : Calls Try.prog 38 #[.slice a len cap, .agg #[.int .i64 day, .slice a' len' cap']] w fun e w' => e = .returned (.bool (decide (60 < len ∨ 60 < len'))) ∧ Below w.heap.size w w' := by
  have HB := Lib.hid ((Below.refl w.heap.size w).alloc (Nat.le_refl _) (.cells #[.int .i64 day, .slice a' len' cap'] 58))
  have BX := Lib.hid (Mem.Blk.new w 58 #[.int .i64 day, .slice a' len' cap'])
  by_cases h : 60 < len
  · have e : decide (60 < len ∨ 60 < len') = true := decide_eq_true (.inl h)
    rw [e]
    have h' : (60 : Int) < (len : Int) := by omega
    clear e
    go_enter Try.func38, Try.ntmps38
    go_upto_region 1 with (fail)
    generalize w.alloc (.cells #[.int .i64 day, .slice a' len' cap'] 58) = v at *
    obtain ⟨c0, c1, -, -⟩ := BX.out.two
    go_wp2_with fail
    go_ret
    exact ⟨rfl, HB.out⟩
  · have h' : ¬ (60 : Int) < (len : Int) := by omega
    by_cases h2 : 60 < len'
    · have e : decide (60 < len ∨ 60 < len') = true := decide_eq_true (.inr h2)
      rw [e]
      have h2' : (60 : Int) < (len' : Int) := by omega
      clear e
      go_enter Try.func38, Try.ntmps38
      go_upto_region 1 with (fail)
      generalize w.alloc (.cells #[.int .i64 day, .slice a' len' cap'] 58) = v at *
      obtain ⟨c0, c1, -, -⟩ := BX.out.two
      go_wp2_with fail
      go_ret
      exact ⟨rfl, HB.out⟩
    · have e : decide (60 < len ∨ 60 < len') = false := decide_eq_false (by omega)
      rw [e]
      have h2' : ¬ (60 : Int) < (len' : Int) := by omega
      clear e
      go_enter Try.func38, Try.ntmps38
      go_upto_region 1 with (fail)
      generalize w.alloc (.cells #[.int .i64 day, .slice a' len' cap'] 58) = v at *
      obtain ⟨c0, c1, -, -⟩ := BX.out.two
      go_wp2_with fail
      go_ret
      exact ⟨rfl, HB.out⟩
/-- What is built lies in no block of one nought. -/
theorem rep_off {w : World} {g : Nat} {ty : TypeId} (hB : Mem.Blk w g ty #[.int .i64 0, .int .i64 0, .string ⟨#[]⟩, .slice none 0 0]) : ∀ (r : Nat) (e : Ex), e.rk ≤ r → bE e = true → ∀ (cs : List Value), RepE w [] e cs → RepE w [g] e cs := by
  intro r
  induction r with
  | zero => intro e h; have := e.rk_pos; omega
  | succ r ih =>
    intro e hr hb cs hR
    obtain ⟨op, n, nm, args, a, len, cap, rfl, rfl, ho, hn, hs, hS⟩ := hR.inv
    obtain ⟨-, -, g3⟩ := bE_inv hb
    refine RepE.mk' ho hn hs ?_
    have hf := hS.facts.1
    obtain ⟨vs, h1, h2, h3⟩ := hS
    refine ⟨vs, h1, fun i e cs he hc => ih e (by have := Ex.rk_lt (op := op) (n := n) (nm := nm) he; omega) (g3 e (List.mem_of_getElem? he)) cs (h2 i e cs he hc), h3.1, h3.2.1, h3.2.2.1, fun hp => ?_⟩
    obtain ⟨b, o, ha, hbl, -, hc⟩ := h3.2.2.2 hp
    refine ⟨b, o, ha, hbl, fun hm => ?_, hc⟩
    rw [List.mem_singleton] at hm
    subst hm
    have he0 : args[0]? = some (args[0]'(by omega)) := List.getElem?_eq_getElem (by omega)
    have hv0 : vs[0]? = some (vs[0]'(by omega)) := List.getElem?_eq_getElem (by omega)
    have hr0 := h2 0 _ _ he0 hv0
    have hb0 := g3 _ (List.mem_of_getElem? he0)
    obtain ⟨op', n', nm', args', a', len', cap', e1, e2, -⟩ := hr0.inv
    rw [e2] at hv0
    rw [e1] at hb0
    have k0 := (hc 0 _ hv0).2 0 _ rfl
    have k3 := (hc 0 _ hv0).2 3 _ rfl
    rw [hB.cell] at k0 k3
    have hlt : o + 0 * 4 + 3 < 4 := (Array.getElem?_eq_some_iff.1 k3).1
    obtain rfl : o = 0 := by omega
    have k0' : some (Value.int .i64 0) = some (Value.int .i64 op') := k0
    injection k0' with k0'; injection k0' with _ k0'
    obtain ⟨q1, -, -⟩ := bE_inv hb0
    have := (ar_op (by rw [q1]; omega : 0 ≤ ar op')).1
    omega
/-- The last one, if it is right and has a kind. -/
def LstR (w' : World) (x : Ending) : Prop := (∃ cs : List Value, cs = [.int .i64 0, .int .i64 0, .string ⟨#[]⟩, .slice none 0 0] ∧ x = .returned (.tuple #[.agg cs.toArray, .bool false])) ∨
  (∃ e cs, x = .returned (.tuple #[.agg cs.toArray, .bool true]) ∧ RepE w' [] e cs ∧ rE e = true ∧ kE e ≠ 0 ∧ e.rk ≤ 60)
set_option maxRecDepth 100000 in
set_option maxHeartbeats 2000000 in
theorem last22_any (lfs : List Lf) (a : Option Addr) (len cap : Nat) (w : World) (h1 : SlR lfK w [] lfs a len cap) : Calls Try.prog 42 #[.slice a len cap] w fun x w' => LstR w' x ∧ Below w.heap.size w w' := by
  have hal := (Below.refl w.heap.size w).alloc (Nat.le_refl _) (.cells #[.int .i64 0, .int .i64 0, .string ⟨#[]⟩, .slice none 0 0] 46)
  have HB0 := Lib.hid hal
  have BR := Lib.hid (Mem.Blk.new w 46 #[.int .i64 0, .int .i64 0, .string ⟨#[]⟩, .slice none 0 0])
  have HBU := Lib.hid (build_any lfs [] a none len cap 0 0 _ (h1.kept (Kept.of_below hal [])) (SlR.nil _ _ _))
  clear h1 hal
  go_enter Try.func42, Try.ntmps42
  go_upto_region 1 with (fail)
  generalize w.alloc (.cells #[.int .i64 0, .int .i64 0, .string ⟨#[]⟩, .slice none 0 0] 46) = v0 at *
  go_wp2_with fail
  go_at_call 15
  (with_reducible refine HBU.out.mono ?_)
  rintro e w1 ⟨⟨es, ts, cs, rfl, hT, hle, -, hrk, -⟩, b1⟩
  obtain ⟨aE, cE, aN, cN, aD, cD, aT, cT, aM, cM, aP, cP, hcs, -⟩ := id hT
  have hal := (Below.refl w1.heap.size w1).alloc (Nat.le_refl _) (.cells #[.slice aE es.length cE, .slice aN (nds es).length cN, .slice aD (rks es).length cD, .slice aT ts.length cT, .slice aM (ndsT ts).length cM, .slice aP (rksT ts).length cP] 30)
  have b2 := b1.trans (hal.mono b1.size)
  have HB1 := Lib.hid (HB0.out.trans (b2.mono HB0.out.size))
  have BR1 := Lib.hid (BR.out.below b2)
  have HT0 := Lib.hid (hT.kept (Kept.of_below hal []))
  have BT0 := Lib.hid (Mem.Blk.new w1 30 #[.slice aE es.length cE, .slice aN (nds es).length cN, .slice aD (rks es).length cD, .slice aT ts.length cT, .slice aM (ndsT ts).length cM, .slice aP (rksT ts).length cP])
  have HRK := Lib.hid hrk
  subst hcs
  clear hT b1 b2 hrk HBU hal HB0 BR
  go_upto_region 2 with (fail)
  generalize w1.alloc (.cells #[.slice aE es.length cE, .slice aN (nds es).length cN, .slice aD (rks es).length cD, .slice aT ts.length cT, .slice aM (ndsT ts).length cM, .slice aP (rksT ts).length cP] 30) = v at *
  generalize w1.heap.size = tb at *
  have c0 : v.cell? ⟨tb, 0, none⟩ = _ := BT0.out.cell 0
  have c1 : v.cell? ⟨tb, 1, none⟩ = _ := BT0.out.cell 1
  have c2 : v.cell? ⟨tb, 2, none⟩ = _ := BT0.out.cell 2
  have c3 : v.cell? ⟨tb, 3, none⟩ = _ := BT0.out.cell 3
  have c4 : v.cell? ⟨tb, 4, none⟩ = _ := BT0.out.cell 4
  have c5 : v.cell? ⟨tb, 5, none⟩ = _ := BT0.out.cell 5
  simp only [List.getElem?_toArray, List.getElem?_cons_zero, List.getElem?_cons_succ] at c0 c1 c2 c3 c4 c5
  by_cases h0 : es.length = 0
  · have h0' : ((es.length : Nat) : Int) = 0 := by omega
    have h0b : (((es.length : Nat) : Int) == 0) = true := by rw [h0']; rfl
    obtain ⟨t0, t1, t2, t3, t4, t5, t6, t7⟩ := blk4 BR1.out
    have hm9 := BR1.out.lt
    have HFN := Lib.hid (ret4E (X := []) (e := .mk 0 0 ⟨#[]⟩ []) (c0 := .int .i64 0) (c1 := .int .i64 0) (c2 := .string ⟨#[]⟩) (c3 := .slice none 0 0) HB1.out (Nat.le_refl _) BR1.out (RepE.mk' (by unfold I64; omega) (by unfold I64; omega) (by decide) (SlE.nil _ _)))
    go_wp2_with fail
    generalize (((v.setCell ⟨w.heap.size, 0, none⟩ (.int .i64 0)).setCell ⟨w.heap.size, 1, none⟩ (.int .i64 0)).setCell ⟨w.heap.size, 2, none⟩ (.string ⟨#[]⟩)).setCell ⟨w.heap.size, 3, none⟩ (.slice none 0 0) = W9 at *
    obtain ⟨r0, r1, r2, r3, -, -, -, -⟩ := blk4 HFN.out.2.2
    refine bodyPost_ret (v := .tuple #[.agg #[.int .i64 0, .int .i64 0, .string ⟨#[]⟩, .slice none 0 0], .bool false]) (by simp [results, Try.results42, go_sem, r0, r1, r2, r3]) rfl ⟨.inl ⟨_, rfl, rfl⟩, HFN.out.2.1⟩
  · obtain ⟨m, hm⟩ : ∃ m, es.length = m + 1 := ⟨es.length - 1, by omega⟩
    have h0b : (((es.length : Nat) : Int) == 0) = false := beq_eq_false_iff_ne.2 (by omega)
    obtain ⟨t, ht⟩ : ∃ t, es[m]? = some t := ⟨_, List.getElem?_eq_getElem (by omega)⟩
    have HRt := Lib.hid (HRK.out t (List.mem_of_getElem? ht))
    have HRE := Lib.hid (treeRightE_any HT0.out m ht (by have := HRt.out; omega))
    obtain ⟨_, _, _, _, _, _, _, _, _, _, _, _, e, h4, -⟩ := id HT0.out
    injection e with e3 e
    injection e3 with e3 _ e3'
    subst e3; subst e3'
    clear e
    obtain ⟨bt, ot, xt, ct, rfl, -, -, hxt, hRt, -, hct⟩ := h4.at m (by omega)
    obtain rfl : t = xt := by rw [ht] at hxt; injection hxt
    have HRT := Lib.hid (show RepE v [] t ct from hRt)
    have HQ2 := Lib.hid (fun W (hW : Below v.heap.size v W) (hb : bE t = true) => rkind_any t.rk t (Nat.le_refl _) hb ct W (HRT.out.kept (Kept.of_below hW [])))
    obtain ⟨o5, n5, m5, r5, a5, l5, p5, -, rfl, -, -, -, -⟩ := HRT.out.inv
    have v0 : v.cell? ⟨bt, ot + m * 4, none⟩ = some (.int .i64 o5) := hct 0 _ rfl
    have v1 : v.cell? ⟨bt, ot + m * 4 + 1, none⟩ = some (.int .i64 n5) := hct 1 _ rfl
    have v2 : v.cell? ⟨bt, ot + m * 4 + 2, none⟩ = some (.string m5) := hct 2 _ rfl
    have v3 : v.cell? ⟨bt, ot + m * 4 + 3, none⟩ = some (.slice a5 l5 p5) := hct 3 _ rfl
    have w1' : IntKind.i64.wrap (((es.length : Nat) : Int) - 1) = ((m : Nat) : Int) := by rw [IntWalk.i64_in _ (by omega)]; omega
    have w2' : ((es.length : Nat) : Int) - 1 = ((m : Nat) : Int) := by omega
    have m1 : (m : Int) < (es.length : Int) := by omega
    have m0 : (0 : Int) ≤ (m : Int) := by omega
    clear h4 hxt hRt hct ht hm
    have HBE := Lib.hid (@rE_built t)
    obtain ⟨re, hre⟩ : ∃ re, re = rE t := ⟨_, rfl⟩
    have HRE' := Lib.hid hre
    rw [← hre] at HRE
    clear hre
    generalize es.length = L at *
    go_wp2_with fail
    go_at_call 24
    (with_reducible refine HRE.out.mono ?_)
    rintro y w3 ⟨rfl, b3⟩
    have HB3 := Lib.hid (HB1.out.trans (b3.mono HB1.out.size))
    have BT3 := Lib.hid (BT0.out.below b3)
    have BR3 := Lib.hid (BR1.out.below b3)
    replace v0 := cell_up v0 b3
    replace v1 := cell_up v1 b3
    replace v2 := cell_up v2 b3
    replace v3 := cell_up v3 b3
    have HR3 := Lib.hid (HRT.out.kept (Kept.of_below b3 []))
    have HW3 := Lib.hid b3
    clear b3 HRE c0 c1 c2 c3 c4 c5 BT0 BR1 HB1 HT0
    have c0 : w3.cell? ⟨tb, 0, none⟩ = _ := BT3.out.cell 0
    have c1 : w3.cell? ⟨tb, 1, none⟩ = _ := BT3.out.cell 1
    have c2 : w3.cell? ⟨tb, 2, none⟩ = _ := BT3.out.cell 2
    have c3 : w3.cell? ⟨tb, 3, none⟩ = _ := BT3.out.cell 3
    have c4 : w3.cell? ⟨tb, 4, none⟩ = _ := BT3.out.cell 4
    have c5 : w3.cell? ⟨tb, 5, none⟩ = _ := BT3.out.cell 5
    simp only [List.getElem?_toArray, List.getElem?_cons_zero, List.getElem?_cons_succ] at c0 c1 c2 c3 c4 c5
    cases re with
    | false =>
      obtain ⟨t0, t1, t2, t3, t4, t5, t6, t7⟩ := blk4 BR3.out
      have hm9 := BR3.out.lt
      have HFN := Lib.hid (ret4E (X := []) (e := .mk 0 0 ⟨#[]⟩ []) (c0 := .int .i64 0) (c1 := .int .i64 0) (c2 := .string ⟨#[]⟩) (c3 := .slice none 0 0) HB3.out (Nat.le_refl _) BR3.out (RepE.mk' (by unfold I64; omega) (by unfold I64; omega) (by decide) (SlE.nil _ _)))
      go_wp2_with fail
      generalize (((w3.setCell ⟨w.heap.size, 0, none⟩ (.int .i64 0)).setCell ⟨w.heap.size, 1, none⟩ (.int .i64 0)).setCell ⟨w.heap.size, 2, none⟩ (.string ⟨#[]⟩)).setCell ⟨w.heap.size, 3, none⟩ (.slice none 0 0) = W9 at *
      obtain ⟨r0, r1, r2, r3, -, -, -, -⟩ := blk4 HFN.out.2.2
      refine bodyPost_ret (v := .tuple #[.agg #[.int .i64 0, .int .i64 0, .string ⟨#[]⟩, .slice none 0 0], .bool false]) (by simp [results, Try.results42, go_sem, r0, r1, r2, r3]) rfl ⟨.inl ⟨_, rfl, rfl⟩, HFN.out.2.1⟩
    | true =>
      have HC := Lib.hid (HQ2.out w3 HW3.out (HBE.out HRE'.out.symm))
      go_wp2_with fail
      go_at_call 25
      (with_reducible refine HC.out.mono ?_)
      rintro y w4 ⟨rfl, b4⟩
      have HB4 := Lib.hid (HB3.out.trans (b4.mono HB3.out.size))
      have BT4 := Lib.hid (BT3.out.below b4)
      have BR4 := Lib.hid (BR3.out.below b4)
      replace v0 := cell_up v0 b4
      replace v1 := cell_up v1 b4
      replace v2 := cell_up v2 b4
      replace v3 := cell_up v3 b4
      have HR4 := Lib.hid (HR3.out.kept (Kept.of_below b4 []))
      clear b4 c0 c1 c2 c3 c4 c5 BT3 BR3 HB3 HC HR3 HW3
      have c0 : w4.cell? ⟨tb, 0, none⟩ = _ := BT4.out.cell 0
      have c1 : w4.cell? ⟨tb, 1, none⟩ = _ := BT4.out.cell 1
      have c2 : w4.cell? ⟨tb, 2, none⟩ = _ := BT4.out.cell 2
      have c3 : w4.cell? ⟨tb, 3, none⟩ = _ := BT4.out.cell 3
      have c4 : w4.cell? ⟨tb, 4, none⟩ = _ := BT4.out.cell 4
      have c5 : w4.cell? ⟨tb, 5, none⟩ = _ := BT4.out.cell 5
      simp only [List.getElem?_toArray, List.getElem?_cons_zero, List.getElem?_cons_succ] at c0 c1 c2 c3 c4 c5
      by_cases hk : kE t = 0
      · rw [hk]
        obtain ⟨t0, t1, t2, t3, t4, t5, t6, t7⟩ := blk4 BR4.out
        have hm9 := BR4.out.lt
        have HFN := Lib.hid (ret4E (X := []) (e := .mk 0 0 ⟨#[]⟩ []) (c0 := .int .i64 0) (c1 := .int .i64 0) (c2 := .string ⟨#[]⟩) (c3 := .slice none 0 0) HB4.out (Nat.le_refl _) BR4.out (RepE.mk' (by unfold I64; omega) (by unfold I64; omega) (by decide) (SlE.nil _ _)))
        go_wp2_with fail
        generalize (((w4.setCell ⟨w.heap.size, 0, none⟩ (.int .i64 0)).setCell ⟨w.heap.size, 1, none⟩ (.int .i64 0)).setCell ⟨w.heap.size, 2, none⟩ (.string ⟨#[]⟩)).setCell ⟨w.heap.size, 3, none⟩ (.slice none 0 0) = W9 at *
        obtain ⟨r0, r1, r2, r3, -, -, -, -⟩ := blk4 HFN.out.2.2
        refine bodyPost_ret (v := .tuple #[.agg #[.int .i64 0, .int .i64 0, .string ⟨#[]⟩, .slice none 0 0], .bool false]) (by simp [results, Try.results42, go_sem, r0, r1, r2, r3]) rfl ⟨.inl ⟨_, rfl, rfl⟩, HFN.out.2.1⟩
      · have hkb : (kE t == 0) = false := beq_eq_false_iff_ne.2 hk
        have HK := Lib.hid hk
        have HFN := Lib.hid (ret4E HB4.out (Nat.le_refl _) BR4.out (rep_off BR4.out t.rk t (Nat.le_refl _) (HBE.out HRE'.out.symm) _ HR4.out))
        obtain ⟨t0, t1, t2, t3, t4, t5, t6, t7⟩ := blk4 BR4.out
        have hm9 := BR4.out.lt
        clear HB4 BR4 HR4 HQ2 hk
        obtain ⟨kt, hkt⟩ : ∃ kt, kt = kE t := ⟨_, rfl⟩
        have HKT := Lib.hid hkt
        rw [← hkt] at hkb ⊢
        clear hkt
        go_wp2_with fail
        generalize (((w4.setCell ⟨w.heap.size, 0, none⟩ (.int .i64 o5)).setCell ⟨w.heap.size, 1, none⟩ (.int .i64 n5)).setCell ⟨w.heap.size, 2, none⟩ (.string m5)).setCell ⟨w.heap.size, 3, none⟩ (.slice a5 l5 p5) = W9 at *
        obtain ⟨r0, r1, r2, r3, -, -, -, -⟩ := blk4 HFN.out.2.2
        refine bodyPost_ret (v := .tuple #[.agg #[.int .i64 o5, .int .i64 n5, .string m5, .slice a5 l5 p5], .bool true]) (by simp [results, Try.results42, go_sem, r0, r1, r2, r3]) rfl ⟨.inr ⟨t, _, rfl, HFN.out.1, HRE'.out.symm, ?_, HRt.out⟩, HFN.out.2.1⟩
        exact HK.out
end Go.Proofs.Ytppnmeobnilojaa

/- The walk of ObsFolds, for any leaves and fixings. -/
namespace Go.Proofs.Ytppnmeobnilojaa
set_option linter.unusedVariables false
set_option linter.unusedSimpArgs false
open Go.RowKit
theorem evalX_fold {day : Int} {fx : List Fx} {e : Ex} (hr : rE e = true) (hn : NumsE e) : evalX day fx (foldX e) = evalX day fx e := by
  unfold foldX
  rw [if_pos hr]
  have hb := rE_built hr
  have h1 : kI (foldE e) = kE e := by unfold kI; rw [if_pos (fold_right hr), foldE_kind e hb]
  have h2 : kI e = kE e := by unfold kI; rw [if_pos hr]
  unfold evalX
  rw [h1, h2, eval_fold day fx e hb hn]
set_option maxRecDepth 100000 in
set_option maxHeartbeats 2000000 in
theorem obsFolds_any (lfs : List Lf) (al : Option Addr) (ll cl : Nat) (day : Int) (fx : List Fx) (a : Option Addr) (len cap : Nat) (w : World) (hl : SlR lfK w [] lfs al ll cl) (hS : SlR fxK w [] fx a len cap) (hd : I64 day) :
    Calls Try.prog 10 #[.slice al ll cl, .agg #[.int .i64 day, .slice a len cap]] w fun e w' => e = .returned (.bool true) ∧ Below w.heap.size w w' := by
  have hal := (Below.refl w.heap.size w).alloc (Nat.le_refl _) (.cells #[.int .i64 day, .slice a len cap] 58)
  have HS0 := Lib.hid (hS.kept (Kept.of_below hal []))
  have HLF := Lib.hid (hl.kept (Kept.of_below hal []))
  have HB0 := Lib.hid hal
  have BX := Lib.hid (Mem.Blk.new w 58 #[.int .i64 day, .slice a len cap])
  have HD := Lib.hid hd
  clear hal hS hl hd
  go_enter Try.func10, Try.ntmps10
  go_upto_region 1 with (fail)
  generalize w.alloc (.cells #[.int .i64 day, .slice a len cap] 58) = v at *
  obtain ⟨c0, c1, -, -⟩ := BX.out.two
  go_wp2_with fail
  go_at_call 38
  (with_reducible refine (great22_any _ _ _ _ _ _ _ _).mono ?_)
  rintro e w1 ⟨rfl, b1⟩
  have HB1 := Lib.hid (HB0.out.trans (b1.mono HB0.out.size))
  have HS1 := Lib.hid (HS0.out.kept (Kept.of_below b1 []))
  have HL1 := Lib.hid (HLF.out.kept (Kept.of_below b1 []))
  have BX1 := Lib.hid (BX.out.below b1)
  clear b1 HB0 HS0 HLF BX c0 c1
  by_cases hg : 60 < ll ∨ 60 < len
  · rw [decide_eq_true hg]
    go_wp2_with fail
    go_at_call 34
    (with_reducible refine (awake22_any _).mono ?_)
    rintro e w9 ⟨rfl, b9⟩
    have HB9 := Lib.hid (HB1.out.trans (b9.mono HB1.out.size))
    clear b9
    go_wp2_with fail
    go_ret
    exact ⟨rfl, HB9.out⟩
  · rw [decide_eq_false hg]
    have hlen : len ≤ 200 := by omega
    clear hg
    go_wp2_with fail
    go_at_call 42
    (with_reducible refine (last22_any lfs al ll cl w1 HL1.out).mono ?_)
    rintro e w2 ⟨hL, b2⟩
    have HB2 := Lib.hid (HB1.out.trans (b2.mono HB1.out.size))
    have HS2 := Lib.hid (HS1.out.kept (Kept.of_below b2 []))
    have BX2 := Lib.hid (BX1.out.below b2)
    clear b2 HB1 HS1 BX1 HL1
    rcases hL with ⟨cs, rfl, rfl⟩ | ⟨e, cs, rfl, hR, hr, hk, hrk⟩
    · have HB3 := Lib.hid (HB2.out.alloc HB2.out.size (.cells #[.int .i64 0, .int .i64 0, .string ⟨#[]⟩, .slice none 0 0] 46))
      go_upto_region 4 with (fail)
      generalize w2.alloc (.cells #[.int .i64 0, .int .i64 0, .string ⟨#[]⟩, .slice none 0 0] 46) = v5 at *
      go_wp2_with fail
      go_at_call 34
      (with_reducible refine (awake22_any _).mono ?_)
      rintro e w9 ⟨rfl, b9⟩
      have HB9 := Lib.hid (HB3.out.trans (b9.mono HB3.out.size))
      clear b9
      go_wp2_with fail
      go_ret
      exact ⟨rfl, HB9.out⟩
    · have HEQ := Lib.hid (evalX_fold (day := day) (fx := fx) hr (RepE.nums e.rk e (Nat.le_refl _) cs hR))
      have HRK := Lib.hid hrk
      have HFK : Hid ((foldX e).rk ≤ 1000) := by
        show (foldX e).rk ≤ 1000
        unfold foldX
        rw [if_pos hr]
        have := (rE_mk (fold_right hr)).2.2
        omega
      have HRR := Lib.hid hR
      obtain ⟨o5, n5, m5, r5, a5, l5, p5, -, rfl, -, -, -, -⟩ := hR.inv
      have hal := (Below.refl w2.heap.size w2).alloc (Nat.le_refl _) (.cells #[.int .i64 o5, .int .i64 n5, .string m5, .slice a5 l5 p5] 46)
      have HB3 := Lib.hid (HB2.out.trans (hal.mono HB2.out.size))
      have HS3 := Lib.hid (HS2.out.kept (Kept.of_below hal []))
      have BX3 := Lib.hid (BX2.out.below hal)
      have HR3 := Lib.hid (HRR.out.kept (Kept.of_below hal []))
      have BE3 := Lib.hid (Mem.Blk.new w2 46 #[.int .i64 o5, .int .i64 n5, .string m5, .slice a5 l5 p5])
      clear hR hr hk hrk hal HB2 HS2 BX2 HRR
      go_upto_region 4 with (fail)
      generalize w2.alloc (.cells #[.int .i64 o5, .int .i64 n5, .string m5, .slice a5 l5 p5] 46) = v3 at *
      generalize w2.heap.size = z at *
      go_wp2_with fail
      obtain ⟨e0, e1, -, -⟩ := BX3.out.two
      obtain ⟨x0, x1, x2, x3, -, -, -, -⟩ := blk4 BE3.out
      refine wp_region_till (S := fun W => (W.cell? ⟨w.heap.size, 0, none⟩ = some (.int .i64 day) ∧ W.cell? ⟨w.heap.size, 1, none⟩ = some (.slice a len cap)) ∧ W.cell? ⟨z, 0, none⟩ = some (.int .i64 o5) ∧ W.cell? ⟨z, 1, none⟩ = some (.int .i64 n5) ∧ W.cell? ⟨z, 2, none⟩ = some (.string m5) ∧ W.cell? ⟨z, 3, none⟩ = some (.slice a5 l5 p5)) 11 (by kernel_rfl) ?_
      refine till_take (i := 0) (v := ?_) rfl (by kernel_rfl) (fun _ _ _ h => h) (Or.inl ⟨by rfl, ?_⟩) ⟨⟨e0,e1⟩,x0,x1,x2,x3⟩ ?_
      rotate_left
      · intro W hS
        try dsimp only at hS
        go_split_ands
        go_simp
        try with_reducible rfl
      try simp only [Act.put, List.getElem_toArray, List.getElem_cons_zero, List.getElem_cons_succ, List.setIfInBounds_toArray, List.set_cons_zero, List.set_cons_succ]
      refine till_take (i := 2) (v := ?_) rfl (by kernel_rfl) (fun _ _ _ h => h) (Or.inl ⟨by rfl, ?_⟩) ⟨⟨e0,e1⟩,x0,x1,x2,x3⟩ ?_
      rotate_left
      · intro W hS
        try dsimp only at hS
        go_split_ands
        go_simp
        try with_reducible rfl
      try simp only [Act.put, List.getElem_toArray, List.getElem_cons_zero, List.getElem_cons_succ, List.setIfInBounds_toArray, List.set_cons_zero, List.set_cons_succ]
      refine till_take (i := 5) (v := ?_) rfl (by kernel_rfl) (fun _ _ _ h => h) (Or.inl ⟨by rfl, ?_⟩) ⟨⟨e0,e1⟩,x0,x1,x2,x3⟩ ?_
      rotate_left
      · intro W hS
        try dsimp only at hS
        go_split_ands
        go_simp
        try with_reducible rfl
      try simp only [Act.put, List.getElem_toArray, List.getElem_cons_zero, List.getElem_cons_succ, List.setIfInBounds_toArray, List.set_cons_zero, List.set_cons_succ]
      refine till_take (i := 6) (v := ?_) rfl (by kernel_rfl) (fun _ _ _ h => h) (Or.inl ⟨by rfl, ?_⟩) ⟨⟨e0,e1⟩,x0,x1,x2,x3⟩ ?_
      rotate_left
      · intro W hS
        try dsimp only at hS
        go_split_ands
        go_simp
        try with_reducible rfl
      try simp only [Act.put, List.getElem_toArray, List.getElem_cons_zero, List.getElem_cons_succ, List.setIfInBounds_toArray, List.set_cons_zero, List.set_cons_succ]
      refine till_one (i := 1) (by kernel_rfl) rfl (fun K' hK => ?_)
      go_simp
      have hd3 := (Below.refl v3.heap.size v3).drew
      have HR3d := Lib.hid (HR3.out.kept (Kept.of_below hd3 []))
      have HS3d := Lib.hid (HS3.out.kept (Kept.of_below hd3 []))
      have HB3d := Lib.hid (HB3.out.trans (hd3.mono HB3.out.size))
      replace e0 := cell_up e0 hd3
      replace e1 := cell_up e1 hd3
      replace x0 := cell_up x0 hd3
      replace x1 := cell_up x1 hd3
      replace x2 := cell_up x2 hd3
      replace x3 := cell_up x3 hd3
      clear hd3 HR3 HS3 HB3 BX3 BE3
      go_at_call 28
      (with_reducible refine (foldX_any e [] _ _ HR3d.out (fun b hb => absurd hb List.not_mem_nil) (by have := HRK.out; omega)).mono ?_)
      rintro x w4 ⟨⟨cs4, rfl, hR4⟩, b4⟩
      obtain ⟨o7, n7, m7, r7, a7, l7, p7, -, hcs4, -, -, -, -⟩ := hR4.inv
      subst hcs4
      have HF4 := Lib.hid hR4
      have HB4 := Lib.hid (HB3d.out.trans (b4.mono HB3d.out.size))
      have HS4 := Lib.hid (HS3d.out.kept (Kept.of_below b4 []))
      have HR4 := Lib.hid (HR3d.out.kept (Kept.of_below b4 []))
      replace e0 := cell_up e0 b4
      replace e1 := cell_up e1 b4
      replace x0 := cell_up x0 b4
      replace x1 := cell_up x1 b4
      replace x2 := cell_up x2 b4
      replace x3 := cell_up x3 b4
      refine hK _ _ ⟨⟨e0,e1⟩,x0,x1,x2,x3⟩ ?_
      clear hK K' b4 HB3d HS3d HR3d
      try simp only [Act.put, List.getElem_toArray, List.getElem_cons_zero, List.getElem_cons_succ, List.setIfInBounds_toArray, List.set_cons_zero, List.set_cons_succ]
      clear hR4
      refine till_one (i := 3) (by kernel_rfl) rfl (fun K' hK => ?_)
      go_simp
      go_at_call 36
      (with_reducible refine (env_any day fx a len cap w4 HS4.out (by omega)).mono ?_)
      rintro x w5 ⟨⟨a8, p8, rfl, hV⟩, b5⟩
      have HV5 := Lib.hid hV
      have HF5 := Lib.hid (HF4.out.kept (Kept.of_below b5 []))
      have HB5 := Lib.hid (HB4.out.trans (b5.mono HB4.out.size))
      have HS5 := Lib.hid (HS4.out.kept (Kept.of_below b5 []))
      have HR5 := Lib.hid (HR4.out.kept (Kept.of_below b5 []))
      replace e0 := cell_up e0 b5
      replace e1 := cell_up e1 b5
      replace x0 := cell_up x0 b5
      replace x1 := cell_up x1 b5
      replace x2 := cell_up x2 b5
      replace x3 := cell_up x3 b5
      refine hK _ _ ⟨⟨e0,e1⟩,x0,x1,x2,x3⟩ ?_
      clear hK K' b5 HB4 HS4 HR4
      try simp only [Act.put, List.getElem_toArray, List.getElem_cons_zero, List.getElem_cons_succ, List.setIfInBounds_toArray, List.set_cons_zero, List.set_cons_succ]
      clear hV HF4
      refine till_one (i := 4) (by kernel_rfl) rfl (fun K' hK => ?_)
      go_simp
      go_at_call 41
      (with_reducible refine (obsEval_any day fx a8 _ p8 (foldX e) _ w5 HD.out HF5.out HFK.out HV5.out).mono ?_)
      rintro x w6 ⟨hx, b6⟩
      rw [HEQ.out] at hx
      unfold RetV at hx
      subst hx
      have HB6 := Lib.hid (HB5.out.trans (b6.mono HB5.out.size))
      have HS6 := Lib.hid (HS5.out.kept (Kept.of_below b6 []))
      have HR6 := Lib.hid (HR5.out.kept (Kept.of_below b6 []))
      replace e0 := cell_up e0 b6
      replace e1 := cell_up e1 b6
      replace x0 := cell_up x0 b6
      replace x1 := cell_up x1 b6
      replace x2 := cell_up x2 b6
      replace x3 := cell_up x3 b6
      refine hK _ _ ⟨⟨e0,e1⟩,x0,x1,x2,x3⟩ ?_
      clear hK K' b6 HB5 HS5 HR5
      try simp only [Act.put, List.getElem_toArray, List.getElem_cons_zero, List.getElem_cons_succ, List.setIfInBounds_toArray, List.set_cons_zero, List.set_cons_succ]
      clear HV5 HF5 HEQ HFK
      refine till_one (i := 7) (by kernel_rfl) rfl (fun K' hK => ?_)
      go_simp
      go_at_call 36
      (with_reducible refine (env_any day fx a len cap w6 HS6.out (by omega)).mono ?_)
      rintro x w7 ⟨⟨a9, p9, rfl, hV⟩, b7⟩
      have HV7 := Lib.hid hV
      have HB7 := Lib.hid (HB6.out.trans (b7.mono HB6.out.size))
      have HS7 := Lib.hid (HS6.out.kept (Kept.of_below b7 []))
      have HR7 := Lib.hid (HR6.out.kept (Kept.of_below b7 []))
      replace e0 := cell_up e0 b7
      replace e1 := cell_up e1 b7
      replace x0 := cell_up x0 b7
      replace x1 := cell_up x1 b7
      replace x2 := cell_up x2 b7
      replace x3 := cell_up x3 b7
      refine hK _ _ ⟨⟨e0,e1⟩,x0,x1,x2,x3⟩ ?_
      clear hK K' b7 HB6 HS6 HR6
      try simp only [Act.put, List.getElem_toArray, List.getElem_cons_zero, List.getElem_cons_succ, List.setIfInBounds_toArray, List.set_cons_zero, List.set_cons_succ]
      clear hV
      refine till_one (i := 8) (by kernel_rfl) rfl (fun K' hK => ?_)
      go_simp
      go_at_call 41
      (with_reducible refine (obsEval_any day fx a9 _ p9 e _ w7 HD.out HR7.out (by have := HRK.out; omega) HV7.out).mono ?_)
      rintro x w8 ⟨hx, b8⟩
      unfold RetV at hx
      subst hx
      have HB8 := Lib.hid (HB7.out.trans (b8.mono HB7.out.size))
      have HS8 := Lib.hid (HS7.out.kept (Kept.of_below b8 []))
      have HR8 := Lib.hid (HR7.out.kept (Kept.of_below b8 []))
      replace e0 := cell_up e0 b8
      replace e1 := cell_up e1 b8
      replace x0 := cell_up x0 b8
      replace x1 := cell_up x1 b8
      replace x2 := cell_up x2 b8
      replace x3 := cell_up x3 b8
      refine hK _ _ ⟨⟨e0,e1⟩,x0,x1,x2,x3⟩ ?_
      clear hK K' b8 HB7 HS7 HR7
      try simp only [Act.put, List.getElem_toArray, List.getElem_cons_zero, List.getElem_cons_succ, List.setIfInBounds_toArray, List.set_cons_zero, List.set_cons_succ]
      clear HV7 HR8 HS8 HRK HD
      generalize evalX day fx e = R at *
      generalize R.K = rk at *
      generalize R.N = rn at *
      generalize R.B = rb at *
      refine till_take (i := 9) (v := ?_) rfl (by kernel_rfl) (fun _ _ _ h => h) (Or.inl ⟨by rfl, ?_⟩) ⟨⟨e0,e1⟩,x0,x1,x2,x3⟩ ?_
      rotate_left
      · intro W hS
        try dsimp only at hS
        go_split_ands
        go_simp
        try with_reducible rfl
      try simp only [Act.put, List.getElem_toArray, List.getElem_cons_zero, List.getElem_cons_succ, List.setIfInBounds_toArray, List.set_cons_zero, List.set_cons_succ]
      refine till_take (i := 10) (v := ?_) rfl (by kernel_rfl) (fun _ _ _ h => h) (Or.inl ⟨by rfl, ?_⟩) ⟨⟨e0,e1⟩,x0,x1,x2,x3⟩ ?_
      rotate_left
      · intro W hS
        try dsimp only at hS
        go_split_ands
        go_simp
        try with_reducible rfl
      try simp only [Act.put, List.getElem_toArray, List.getElem_cons_zero, List.getElem_cons_succ, List.setIfInBounds_toArray, List.set_cons_zero, List.set_cons_succ]
      refine till_last (by kernel_rfl) rfl (by kernel_rfl) (fun K' hK => ?_)
      go_simp
      go_at_call 34
      (with_reducible refine (awake22_any _).mono ?_)
      rintro x w9 ⟨rfl, b9⟩
      have HB9 := Lib.hid (HB8.out.trans (b9.mono HB8.out.size))
      refine hK _ _ ?_
      clear hK K' b9 e0 e1 x0 x1 x2 x3
      try simp only [Act.put, List.getElem_toArray, List.getElem_cons_zero, List.getElem_cons_succ, List.setIfInBounds_toArray, List.set_cons_zero, List.set_cons_succ]
      refine any_take (i := 12) (v := ?_) rfl (by kernel_rfl) (fun _ _ _ h => h) (Or.inl ⟨by rfl, ?_⟩) ?_
      rotate_left
      · intro W
        go_simp
        try with_reducible rfl
      try simp only [Act.put, List.getElem_toArray, List.getElem_cons_zero, List.getElem_cons_succ, List.setIfInBounds_toArray, List.set_cons_zero, List.set_cons_succ]
      refine any_take (i := 13) (v := ?_) rfl (by kernel_rfl) (fun _ _ _ h => h) (Or.inl ⟨by rfl, ?_⟩) ?_
      rotate_left
      · intro W
        go_simp
        try with_reducible rfl
      try simp only [Act.put, List.getElem_toArray, List.getElem_cons_zero, List.getElem_cons_succ, List.setIfInBounds_toArray, List.set_cons_zero, List.set_cons_succ]
      refine wpAny_done (by kernel_rfl) ?_ _
      go_wp2_with fail
      go_ret
      exact ⟨rfl, HB9.out⟩
end Go.Proofs.Ytppnmeobnilojaa

/- What came in, opened: fixings, and what is seen. -/
namespace Go.Proofs.Ytppnmeobnilojaa
set_option linter.unusedVariables false
set_option linter.unusedSimpArgs false
open Go.ChangeShapes Go.WideShapes Go.ChangeAt Go.RowKit Go.Deep
theorem three_list {α : Type} {cs : List α} (h : cs.length = 3) {a b c : α} (h0 : cs[0]? = some a) (h1 : cs[1]? = some b) (h2 : cs[2]? = some c) : cs = [a, b, c] := by
  match cs, h with
  | [p, q, r], _ => simp at h0 h1 h2; subst h0; subst h1; subst h2; rfl
theorem two_list {α : Type} {cs : List α} (h : cs.length = 2) {a b : α} (h0 : cs[0]? = some a) (h1 : cs[1]? = some b) : cs = [a, b] := by
  match cs, h with
  | [p, q], _ => simp at h0 h1; subst h0; subst h1; rfl
theorem opens_fixing : Opens Try.prog 82 fxK := by
  intro H enc W fuel cs x h
  obtain ⟨hl, hf⟩ := opens_struct Try.underlying82 (by kernel_rfl) (by kernel_rfl) h
  obtain ⟨v0, n0, y0, c0, t0⟩ := hf 0 _ rfl
  obtain ⟨v1, n1, y1, c1, t1⟩ := hf 1 _ rfl
  obtain ⟨v2, n2, y2, c2, t2⟩ := hf 2 _ rfl
  obtain ⟨s, e0, _, w0⟩ := DataW.trod_string Try.underlying9 t0
  obtain ⟨a, e1, _, w1⟩ := DataW.trod_int (k := .i64) Try.underlying3 t1
  obtain ⟨b, e2, _, w2⟩ := DataW.trod_int (k := .i64) Try.underlying2 t2
  injection e0 with e0; injection e1 with e1; injection e2 with e2
  subst e0; subst e1; subst e2
  exact ⟨⟨s, a, b⟩, three_list hl c0 c1 c2, (show s.size ≤ 9223372036854775807 by unfold maxLen at w0; omega), i64_of w1, i64_of w2⟩
set_option maxRecDepth 100000 in
theorem env_of {H : Type} {enc : TypeId × Value → H} {W : World} {base : Nat} {v : Value} {x : DataW H × List MemPlace} (hv : Value.okWide Try.prog W .any base 58 v) (k : ∃ fuel, DataW.trod enc Try.prog W 0 (fun _ => true) true fuel 58 (Value.cells v).toList = some x) :
    ∃ day a len cap fx, v = .agg #[.int .i64 day, .slice a len cap] ∧ I64 day ∧ SlR fxK W [] fx a len cap := by
  obtain ⟨cs, rfl, -⟩ := okWide_struct Try.underlying58 hv
  obtain ⟨fuel, h⟩ := k
  obtain ⟨hl, hf⟩ := opens_struct Try.underlying58 (by kernel_rfl) (by kernel_rfl) h
  obtain ⟨v0, n0, y0, c0, t0⟩ := hf 0 _ rfl
  obtain ⟨v1, n1, y1, c1, t1⟩ := hf 1 _ rfl
  obtain ⟨a, e0, _, w0⟩ := DataW.trod_int (k := .i64) Try.underlying3 t0
  obtain ⟨p, len, cap, l, e1, hS⟩ := opens_slice (K := fxK) Try.underlying56 (by kernel_rfl) opens_fixing t1
  injection e0 with e0; injection e1 with e1
  subst e0; subst e1
  refine ⟨a, p, len, cap, l, ?_, i64_of w0, hS⟩
  have hcs : cs.toList = [.int .i64 a, .slice p len cap] := two_list hl c0 c1
  rw [show cs = #[.int .i64 a, .slice p len cap] by rw [← Array.toArray_toList (xs := cs), hcs]]
set_option maxRecDepth 100000 in
theorem fixing_of {H : Type} {enc : TypeId × Value → H} {W : World} {base : Nat} {v : Value} {x : DataW H × List MemPlace} (hv : Value.okWide Try.prog W .any base 82 v) (k : ∃ fuel, DataW.trod enc Try.prog W 0 (fun _ => true) true fuel 82 (Value.cells v).toList = some x) :
    ∃ f : Fx, v = .agg #[.string f.name, .int .i64 f.day, .int .i64 f.val] ∧ f.name.size ≤ 9223372036854775807 ∧ I64 f.day ∧ I64 f.val := by
  obtain ⟨cs, rfl, -⟩ := okWide_struct Try.underlying82 hv
  obtain ⟨fuel, h⟩ := k
  obtain ⟨f, hf, h1, h2, h3⟩ := opens_fixing H enc W fuel _ x h
  refine ⟨f, ?_, h1, h2, h3⟩
  have hcs : cs.toList = [.string f.name, .int .i64 f.day, .int .i64 f.val] := hf
  rw [show cs = #[.string f.name, .int .i64 f.day, .int .i64 f.val] by rw [← Array.toArray_toList (xs := cs), hcs]]
end Go.Proofs.Ytppnmeobnilojaa
