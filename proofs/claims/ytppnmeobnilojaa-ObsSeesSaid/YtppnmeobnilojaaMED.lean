/- A part of the proof: Env, Awk22, Rsee, LawV, OpenV, one behind another. -/
import Derived.Test.YtppnmeobnilojaaMAA
import Derived.Test.YtppnmeobnilojaaMAB
import Derived.Test.YtppnmeobnilojaaMAC
import Derived.Test.YtppnmeobnilojaaMAD
import Derived.Test.YtppnmeobnilojaaMAE
import Derived.Test.YtppnmeobnilojaaMAF
import Derived.Test.YtppnmeobnilojaaMAG
import Derived.Test.YtppnmeobnilojaaMAH
import Derived.Test.YtppnmeobnilojaaMEA
import Derived.Test.YtppnmeobnilojaaMEB
import Derived.Test.YtppnmeobnilojaaMEC
/- The contract of law22.env: what is seen, as the program has it. -/
namespace Go.Proofs.Ytppnmeobnilojaa
set_option linter.unusedVariables false
set_option linter.unusedSimpArgs false
open Go.RowKit
theorem infoF : (Try.prog.info? 83).map (fun i => (i.zero, i.size, i.bytes)) = some (some (.agg #[.string ⟨#[]⟩, .int .i64 0, .int .i64 0]), 3, 32) := by kernel_rfl
def famV (h : Nat) (day : Int) (a : Option Addr) (len cap : Nat) (fs : List Fx) (vA : Value) : List Ob :=
  [gr fxK 83 h fs vA, bx (h + 1 + 1) 63 #[.int .i64 day, vA], bx (h + 1) 63 #[.int .i64 0, .slice none 0 0], bx h 58 #[.int .i64 day, .slice a len cap]]
structure EnvJ (w wr : World) (day : Int) (a : Option Addr) (len cap : Nat) (fs : List Fx) (vA : Value) : Prop where
  below : Below w.heap.size w wr
  sep : Sep wr (famV w.heap.size day a len cap fs vA)
section
variable {w wr wr' : World} {day : Int} {a : Option Addr} {len cap : Nat} {fs : List Fx} {vA : Value}
theorem EnvJ.up (h : EnvJ w wr day a len cap fs vA) (hb : Below wr.heap.size wr wr') : EnvJ w wr' day a len cap fs vA := ⟨h.below.trans (hb.mono h.below.size), h.sep.below hb⟩
theorem EnvJ.push {w1 : World} {csl : List (List Value)} {v' : Value} {x : Fx} {c : List Value} (h : EnvJ w wr day a len cap fs vA)
    (hG : Grow fxK 83 w.heap.size wr (others (famV w.heap.size day a len cap fs vA) 0) fs vA csl)
    (hR : fxK.R wr (owns (famV w.heap.size day a len cap fs vA)) x c)
    (ho : w1.ownsRow w.heap.size 83 3 v' (fs.length + 1) (csl.flatten ++ c)) (hg : wr.grownBy w1 vA.ownBlock) (hv : v'.ownBlock = vA.ownBlock ∨ v'.ownBlock = some wr.heap.size) :
    (w1.cell? ⟨w.heap.size + 1 + 1, 1, none⟩ = some vA ∧ w1.frozen? ⟨w.heap.size + 1 + 1, 1, none⟩ = false) ∧ EnvJ w (w1.setCell ⟨w.heap.size + 1 + 1, 1, none⟩ v') day a len cap (fs ++ [x]) v' := by
  have h1 := h.sep.push 0 rfl hG (x := x) (c := c) hR ho hg hv
  have h2 := h1.store 1 rfl 1 v'
  exact ⟨⟨(h1.blk 1 rfl).cell 1, (h1.blk 1 rfl).frozen 1⟩, (h.below.grown hg h.below.size (fun b hb => (hG.blt hb).1)).setCell (by show w.heap.size ≤ w.heap.size + 1 + 1; omega) _, h2⟩
/-- What was copied, stored where the answer lies. -/
theorem EnvJ.fin {aA : Option Addr} {cA : Nat} (h : EnvJ w wr day a len cap fs (.slice aA fs.length cA)) :
    SlR fxK ((wr.setCell ⟨w.heap.size + 1, 0, none⟩ (.int .i64 day)).setCell ⟨w.heap.size + 1, 1, none⟩ (.slice aA fs.length cA)) [] fs aA fs.length cA ∧
    Below w.heap.size w ((wr.setCell ⟨w.heap.size + 1, 0, none⟩ (.int .i64 day)).setCell ⟨w.heap.size + 1, 1, none⟩ (.slice aA fs.length cA)) ∧
    Mem.Blk ((wr.setCell ⟨w.heap.size + 1, 0, none⟩ (.int .i64 day)).setCell ⟨w.heap.size + 1, 1, none⟩ (.slice aA fs.length cA)) (w.heap.size + 1) 63 #[.int .i64 day, .slice aA fs.length cA] := by
  have h1 := (h.sep.store 2 rfl 0 (.int .i64 day)).store 2 rfl 1 (.slice aA fs.length cA)
  obtain ⟨a', c', e, hS⟩ := h1.still 0 rfl
  injection e with e1 e2 e3; subst e1; subst e3
  have hl : w.heap.size ≤ w.heap.size + 1 := by omega
  exact ⟨hS.free, (h.below.setCell hl _).setCell hl _, h1.blk 2 rfl⟩
end
theorem EnvJ.start {w : World} {day : Int} {a : Option Addr} {len cap : Nat} : EnvJ w (((w.alloc (.cells #[.int .i64 day, .slice a len cap] 58)).alloc (.cells #[.int .i64 0, .slice none 0 0] 63)).alloc (.cells #[.int .i64 day, .slice none 0 0] 63)) day a len cap [] (.slice none 0 0) := by
  have h1 := (((Sep.nil w).new 58 #[.int .i64 day, .slice a len cap]).new 63 #[.int .i64 0, .slice none 0 0]).new 63 #[.int .i64 day, .slice none 0 0]
  have e1 : (w.alloc (.cells #[.int .i64 day, .slice a len cap] 58)).heap.size = w.heap.size + 1 := by simp
  have e2 : ((w.alloc (.cells #[.int .i64 day, .slice a len cap] 58)).alloc (.cells #[.int .i64 0, .slice none 0 0] 63)).heap.size = w.heap.size + 1 + 1 := by simp
  rw [e1, e2] at h1
  exact ⟨(((Below.refl _ w).alloc (Nat.le_refl _) _).alloc (by simp) _).alloc (by simp; omega) _, h1.addGr fxK 83 (by simp; omega)⟩
/-- What is seen, answered. -/
def RetVs (w : World) (day : Int) (fs : List Fx) (x : Ending) : Prop := ∃ a cap, x = .returned (.agg #[.int .i64 day, .slice a fs.length cap]) ∧ SlR fxK w [] fs a fs.length cap
set_option maxRecDepth 100000 in
set_option maxHeartbeats 2000000 in
theorem env_any (day : Int) (fx : List Fx) (a : Option Addr) (len cap : Nat) (w : World) (hS : SlR fxK w [] fx a len cap) (h2 : len ≤ 200) :
    Calls Try.prog 36 #[.agg #[.int .i64 day, .slice a len cap]] w fun x w' => RetVs w' day fx x ∧ Below w.heap.size w w' := by
  obtain ⟨f1, f2, f3⟩ := hS.facts
  have HL := Lib.hid f1
  have HSS := Lib.hid hS
  have HR0 := Lib.hid (EnvJ.start (w := w) (day := day) (a := a) (len := len) (cap := cap))
  clear hS f1
  go_enter Try.func36, Try.ntmps36
  go_upto_region 2 with (fail)
  generalize ((w.alloc (.cells #[.int .i64 day, .slice a len cap] 58)).alloc (.cells #[.int .i64 0, .slice none 0 0] 63)).alloc (.cells #[.int .i64 day, .slice none 0 0] 63) = v at *
  go_wp2_with fail
  go_loopw [4] (fun i wr => ∃ (k : Nat) (vA : Value), i = .int .i64 (k : Nat) ∧ k ≤ len ∧ Hid (EnvJ w wr day a len cap (fx.take k) vA)) (fun i _ => len - (intOf i).toNat)
  case atStart => exact ⟨0, _, rfl, Nat.zero_le _, HR0.out⟩
  case round =>
    clear HR0
    obtain ⟨k, vA, rfl, hk, HR⟩ := hrel
    obtain ⟨e0, e1, -, -⟩ := (HR.out.sep.blk 3 rfl).two
    have hlk : (fx.take k).length = k := by rw [List.length_take, HL.out]; omega
    have HLK := Lib.hid hlk
    by_cases hlt : k < len
    · have j1' : (k : Int) < (len : Int) := by omega
      obtain ⟨b, o, f, rfl, -, -, hxe, hsz, q1, q2, u0, u1, u2⟩ := fx_at (HSS.out.kept (Kept.of_below HR.out.below [])) k hlt
      have HTK : Hid (fx.take (k + 1) = fx.take k ++ [f]) := by
        show fx.take (k + 1) = _
        obtain ⟨hk', he⟩ := List.getElem?_eq_some_iff.1 hxe
        rw [← he]; exact (List.take_append_getElem hk').symm
      have HFX : Hid (f.name.size ≤ 9223372036854775807 ∧ I64 f.day ∧ I64 f.val) := ⟨hsz, q1, q2⟩
      clear hxe hlk hsz q1 q2
      have d1 : wr.cell? ⟨w.heap.size + 1 + 1, 1, none⟩ = some vA := (HR.out.sep.blk 1 rfl).cell 1
      generalize fx.take k = FS at *
      go_wp2_with fail
      refine wp_region_till (S := fun W => W.cell? ⟨w.heap.size + 1 + 1, 1, none⟩ = some vA ∧ W.cell? ⟨w.heap.size, 1, none⟩ = some (.slice (some ⟨b, o, none⟩) len cap) ∧ W.cell? ⟨b, o + k * 3, none⟩ = some (.string f.name) ∧ W.cell? ⟨b, o + k * 3 + 1, none⟩ = some (.int .i64 f.day) ∧ W.cell? ⟨b, o + k * 3 + 2, none⟩ = some (.int .i64 f.val)) 8 (by kernel_rfl) ?_
      refine till_take (i := 0) (v := ?_) rfl (by kernel_rfl) (fun _ _ _ h => h) (Or.inl ⟨by rfl, ?_⟩) ⟨d1,e1,u0,u1,u2⟩ ?_
      rotate_left
      · intro W hS
        try dsimp only at hS
        go_split_ands
        go_simp
        try with_reducible rfl
      try simp only [Act.put, List.getElem_toArray, List.getElem_cons_zero, List.getElem_cons_succ, List.setIfInBounds_toArray, List.set_cons_zero, List.set_cons_succ]
      refine till_take (i := 1) (v := ?_) rfl (by kernel_rfl) (fun _ _ _ h => h) (Or.inl ⟨by rfl, ?_⟩) ⟨d1,e1,u0,u1,u2⟩ ?_
      rotate_left
      · intro W hS
        try dsimp only at hS
        go_split_ands
        go_simp
        try with_reducible rfl
      try simp only [Act.put, List.getElem_toArray, List.getElem_cons_zero, List.getElem_cons_succ, List.setIfInBounds_toArray, List.set_cons_zero, List.set_cons_succ]
      refine till_take (i := 2) (v := ?_) rfl (by kernel_rfl) (fun _ _ _ h => h) (Or.inl ⟨by rfl, ?_⟩) ⟨d1,e1,u0,u1,u2⟩ ?_
      rotate_left
      · intro W hS
        try dsimp only at hS
        go_split_ands
        go_simp
        try with_reducible rfl
      try simp only [Act.put, List.getElem_toArray, List.getElem_cons_zero, List.getElem_cons_succ, List.setIfInBounds_toArray, List.set_cons_zero, List.set_cons_succ]
      refine till_take (i := 3) (v := ?_) rfl (by kernel_rfl) (fun _ _ _ h => h) (Or.inl ⟨by rfl, ?_⟩) ⟨d1,e1,u0,u1,u2⟩ ?_
      rotate_left
      · intro W hS
        try dsimp only at hS
        go_split_ands
        go_simp
        try with_reducible rfl
      try simp only [Act.put, List.getElem_toArray, List.getElem_cons_zero, List.getElem_cons_succ, List.setIfInBounds_toArray, List.set_cons_zero, List.set_cons_succ]
      refine till_take (i := 4) (v := ?_) rfl (by kernel_rfl) (fun _ _ _ h => h) (Or.inl ⟨by rfl, ?_⟩) ⟨d1,e1,u0,u1,u2⟩ ?_
      rotate_left
      · intro W hS
        try dsimp only at hS
        go_split_ands
        go_simp
        try with_reducible rfl
      try simp only [Act.put, List.getElem_toArray, List.getElem_cons_zero, List.getElem_cons_succ, List.setIfInBounds_toArray, List.set_cons_zero, List.set_cons_succ]
      refine till_take (i := 5) (v := ?_) rfl (by kernel_rfl) (fun _ _ _ h => h) (Or.inl ⟨by rfl, ?_⟩) ⟨d1,e1,u0,u1,u2⟩ ?_
      rotate_left
      · intro W hS
        try dsimp only at hS
        go_split_ands
        go_simp
        try with_reducible rfl
      try simp only [Act.put, List.getElem_toArray, List.getElem_cons_zero, List.getElem_cons_succ, List.setIfInBounds_toArray, List.set_cons_zero, List.set_cons_succ]
      refine till_take (i := 6) (v := ?_) rfl (by kernel_rfl) (fun _ _ _ h => h) (Or.inl ⟨by rfl, ?_⟩) ⟨d1,e1,u0,u1,u2⟩ ?_
      rotate_left
      · intro W hS
        try dsimp only at hS
        go_split_ands
        go_simp
        try with_reducible rfl
      try simp only [Act.put, List.getElem_toArray, List.getElem_cons_zero, List.getElem_cons_succ, List.setIfInBounds_toArray, List.set_cons_zero, List.set_cons_succ]
      refine till_one (i := 7) (by kernel_rfl) rfl (fun K' hK => ?_)
      go_simp
      have hbn := below_new wr (.cells #[.string f.name, .int .i64 f.day, .int .i64 f.val] 83)
      have HB2 := Lib.hid (HR.out.up hbn)
      have BZ := Lib.hid (Mem.Blk.new wr 83 #[.string f.name, .int .i64 f.day, .int .i64 f.val]).drew
      refine hK _ _ ⟨cell_up d1 hbn, cell_up e1 hbn, cell_up u0 hbn, cell_up u1 hbn, cell_up u2 hbn⟩ ?_
      clear hK K' hbn HR d1 e0 e1 u0 u1 u2
      generalize (wr.alloc (.cells #[.string f.name, .int .i64 f.day, .int .i64 f.val] 83)).drew = w2 at *
      generalize wr.heap.size = z at *
      try simp only [Act.put, List.getElem_toArray, List.getElem_cons_zero, List.getElem_cons_succ, List.setIfInBounds_toArray, List.set_cons_zero, List.set_cons_succ]
      refine till_last (by kernel_rfl) rfl (by kernel_rfl) (fun K' hK => ?_)
      obtain ⟨csl, hGr⟩ := HB2.out.sep.at 0 rfl
      refine step_ap infoF Try.underlying61 rfl (by decide) rfl (.tmp 16) (.tmp 22) rfl rfl hGr.own hGr.room ⟨z, 0, none⟩ 1 1 [.string f.name, .int .i64 f.day, .int .i64 f.val] rfl rfl (fun m u hm => by rw [Mem.add0, BZ.out.cell]; simpa using hm) (by simp [Value.oneCell']) (by have := HLK.out; unfold maxLen; omega) (by have := HLK.out; omega) ?_
      intro v' w3 og gg hv'
      obtain ⟨g2, capn, rfl, -, -, -, -⟩ := own_form og (by omega)
      refine hK _ _ ?_
      clear hK K'
      obtain ⟨⟨m4, m5⟩, hB3⟩ := HB2.out.push hGr (x := f) (c := fxC f) ⟨rfl, HFX.out⟩ og gg hv'
      have HB3 := Lib.hid hB3
      clear HB2 hGr og gg hv' BZ hB3
      try simp only [Act.put, List.getElem_toArray, List.getElem_cons_zero, List.getElem_cons_succ, List.setIfInBounds_toArray, List.set_cons_zero, List.set_cons_succ]
      refine any_take (i := 9) (v := ?_) rfl (by kernel_rfl) (fun _ _ _ h => h) (Or.inl ⟨by rfl, ?_⟩) ?_
      rotate_left
      · intro W
        go_simp
        try with_reducible rfl
      try simp only [Act.put, List.getElem_toArray, List.getElem_cons_zero, List.getElem_cons_succ, List.setIfInBounds_toArray, List.set_cons_zero, List.set_cons_succ]
      refine any_one (i := 10) (by kernel_rfl) rfl (fun K' hK => ?_)
      go_simp
      refine hK _ _ ?_
      clear hK K' m4 m5
      refine wpAny_done (by kernel_rfl) ?_ _
      rw [← HTK.out] at HB3
      generalize FS.length = ln at *
      obtain rfl : ln = k := HLK.out
      go_wp2_with fail
      go_roundw
      case rel => exact ⟨ln + 1, _, by go_num, by omega, HB3.out⟩
      case measure => simp [intOf]; omega
    · have hk' : ¬ (k : Int) < (len : Int) := by omega
      obtain rfl : k = len := by omega
      have hfk : fx.take k = fx := List.take_of_length_le (by rw [HL.out]; omega)
      rw [hfk] at HR
      obtain ⟨a', cA, rfl, hSv⟩ := HR.out.sep.still 0 rfl
      have HFN := Lib.hid HR.out.fin
      obtain ⟨s0, s1, s2, s3⟩ := (HR.out.sep.blk 1 rfl).two
      obtain ⟨t0, t1, t2, t3⟩ := (HR.out.sep.blk 2 rfl).two
      have hm := (HR.out.sep.blk 2 rfl).lt
      clear hSv HR hfk hlk HLK
      have hfl := HL.out
      clear HL
      subst hfl
      go_wp2_with fail
      generalize (wr.setCell ⟨w.heap.size + 1, 0, none⟩ (.int .i64 day)).setCell ⟨w.heap.size + 1, 1, none⟩ (.slice a' fx.length cA) = W9 at *
      obtain ⟨r0, r1, -, -⟩ := HFN.out.2.2.two
      refine bodyPost_ret (v := .agg #[.int .i64 day, .slice a' fx.length cA]) (by simp [results, Try.results36, go_sem, r0, r1]) rfl ⟨⟨a', cA, rfl, HFN.out.1⟩, HFN.out.2.1⟩
end Go.Proofs.Ytppnmeobnilojaa

/- The law's own example of chapter 22. -/
namespace Go.Proofs.Ytppnmeobnilojaa
set_option linter.unusedVariables false
set_option linter.unusedSimpArgs false
open Go.RowKit
def spx : ByteArray := ⟨#[83, 80, 88]⟩
def seeE : Ex := .mk 16 0 ⟨#[]⟩ [.mk 3 0 spx [], .mk 1 100 ⟨#[]⟩ []]
def dayE : Ex := .mk 15 0 ⟨#[]⟩ [.mk 4 0 ⟨#[]⟩ [], .mk 2 19723 ⟨#[]⟩ []]
def bothE : Ex := .mk 17 0 ⟨#[]⟩ [seeE, dayE]
theorem bothE_built : bE bothE = true := by kernel_rfl
theorem bothE_right : rE bothE = true := by
  have h : rE bothE = (decide (bothE.nd ≤ 200 ∧ bothE.rk ≤ 16) && bE bothE) := rfl
  rw [h, bothE_built]
  decide
theorem bothE_kind : kI bothE = 2 := by
  have h : kI bothE = if rE bothE then kE bothE else 0 := rfl
  have h2 : kE bothE = 2 := by kernel_rfl
  rw [h, bothE_right, h2]; rfl
theorem bothE_5 : evalX 5 [] bothE = .tru false := by
  unfold evalX
  rw [bothE_kind, if_neg (by decide)]
  simp [bothE, seeE, dayE, evalE_mk, evO, opV, bothV, seenV, seenF, twoV, cmpV, Vl.N]
theorem bothE_on : evalX 19723 [] bothE = .unk := by
  unfold evalX
  rw [bothE_kind, if_neg (by decide)]
  simp [bothE, seeE, dayE, evalE_mk, evO, opV, bothV, seenV, seenF, twoV, cmpV, Vl.N]
theorem lit_two {w : World} {x y : Ex} {c d : List Value} {cs : Array Value} {op n : Int} (hcs : cs.toList = c ++ d) (hx : RepE w [] x c) (hy : RepE w [] y d) (ho : I64 op) (hn : I64 n) :
    RepE ((w.alloc (.cells cs 46)).alloc (.cells #[.int .i64 op, .int .i64 n, .string ⟨#[]⟩, .slice (some ⟨w.heap.size, 0, none⟩) 2 2] 46)) [] (.mk op n ⟨#[]⟩ [x, y]) [.int .i64 op, .int .i64 n, .string ⟨#[]⟩, .slice (some ⟨w.heap.size, 0, none⟩) 2 2] ∧
    Mem.Blk ((w.alloc (.cells cs 46)).alloc (.cells #[.int .i64 op, .int .i64 n, .string ⟨#[]⟩, .slice (some ⟨w.heap.size, 0, none⟩) 2 2] 46)) (w.heap.size + 1) 46 #[.int .i64 op, .int .i64 n, .string ⟨#[]⟩, .slice (some ⟨w.heap.size, 0, none⟩) 2 2] ∧
    Below w.heap.size w ((w.alloc (.cells cs 46)).alloc (.cells #[.int .i64 op, .int .i64 n, .string ⟨#[]⟩, .slice (some ⟨w.heap.size, 0, none⟩) 2 2] 46)) := by
  have h1 := Mem.Blk.new w 46 cs
  have h2 := Mem.Blk.new (w.alloc (.cells cs 46)) 46 #[.int .i64 op, .int .i64 n, .string ⟨#[]⟩, .slice (some ⟨w.heap.size, 0, none⟩) 2 2]
  have e1 : (w.alloc (.cells cs 46)).heap.size = w.heap.size + 1 := by simp
  have hb := ((Below.refl w.heap.size w).alloc (Nat.le_refl _) (.cells cs 46)).alloc (by rw [e1]; omega) (.cells #[.int .i64 op, .int .i64 n, .string ⟨#[]⟩, .slice (some ⟨w.heap.size, 0, none⟩) 2 2] 46)
  rw [e1] at h2
  exact ⟨RepE.mk' ho hn (by decide) (SlR.lit2 (K := exK) (h1.alloc _) hcs (by simp) (hx.kept (Kept.of_below hb [])) (hy.kept (Kept.of_below hb []))).slE, h2, hb⟩
theorem leaf_rep {w : World} {X : List Nat} (op n : Int) (nm : ByteArray) (ho : I64 op) (hn : I64 n) (hs : nm.size ≤ 9223372036854775807) : RepE w X (.mk op n nm []) [.int .i64 op, .int .i64 n, .string nm, .slice none 0 0] := RepE.mk' ho hn hs (SlE.nil _ _)
set_option maxRecDepth 100000 in
set_option maxHeartbeats 2000000 in
theorem awake22_any (w : World) : Calls Try.prog 34 #[] w fun x w' => x = .returned (.bool true) ∧ Below w.heap.size w w' := by
  have L1 := Lib.hid (lit_two (w := w) (cs := #[.int .i64 3, .int .i64 0, .string spx, .slice none 0 0, .int .i64 1, .int .i64 100, .string ⟨#[]⟩, .slice none 0 0]) (op := 16) (n := 0) rfl (leaf_rep 3 0 spx (by unfold I64; omega) (by unfold I64; omega) (by decide)) (leaf_rep 1 100 ⟨#[]⟩ (by unfold I64; omega) (by unfold I64; omega) (by decide)) (by unfold I64; omega) (by unfold I64; omega))
  unfold spx at L1
  go_enter Try.func34, Try.ntmps34
  go_upto_region 2 with (fail)
  generalize (w.alloc (.cells #[.int .i64 3, .int .i64 0, .string ⟨#[83, 80, 88]⟩, .slice none 0 0, .int .i64 1, .int .i64 100, .string ⟨#[]⟩, .slice none 0 0] 46)).alloc (.cells #[.int .i64 16, .int .i64 0, .string ⟨#[]⟩, .slice (some ⟨w.heap.size, 0, none⟩) 2 2] 46) = v1 at *
  have L2 := Lib.hid (lit_two (w := v1) (cs := #[.int .i64 4, .int .i64 0, .string ⟨#[]⟩, .slice none 0 0, .int .i64 2, .int .i64 19723, .string ⟨#[]⟩, .slice none 0 0]) (op := 15) (n := 0) rfl (leaf_rep 4 0 ⟨#[]⟩ (by unfold I64; omega) (by unfold I64; omega) (by decide)) (leaf_rep 2 19723 ⟨#[]⟩ (by unfold I64; omega) (by unfold I64; omega) (by decide)) (by unfold I64; omega) (by unfold I64; omega))
  go_upto_region 3 with (fail)
  generalize (v1.alloc (.cells #[.int .i64 4, .int .i64 0, .string ⟨#[]⟩, .slice none 0 0, .int .i64 2, .int .i64 19723, .string ⟨#[]⟩, .slice none 0 0] 46)).alloc (.cells #[.int .i64 15, .int .i64 0, .string ⟨#[]⟩, .slice (some ⟨v1.heap.size, 0, none⟩) 2 2] 46) = v2 at *
  have L3 := Lib.hid (lit_two (w := v2) (cs := #[.int .i64 16, .int .i64 0, .string ⟨#[]⟩, .slice (some ⟨w.heap.size, 0, none⟩) 2 2, .int .i64 15, .int .i64 0, .string ⟨#[]⟩, .slice (some ⟨v1.heap.size, 0, none⟩) 2 2]) (op := 17) (n := 0) rfl (L1.out.1.kept (Kept.of_below L2.out.2.2 [])) L2.out.1 (by unfold I64; omega) (by unfold I64; omega))
  have HB := Lib.hid (L1.out.2.2.trans (L2.out.2.2.mono L1.out.2.2.size))
  have HB1 := Lib.hid (HB.out.trans (L3.out.2.2.mono HB.out.size))
  obtain ⟨a0, a1, a2, a3, -, -, -, -⟩ := blk4 (L1.out.2.1.below L2.out.2.2)
  obtain ⟨b0, b1, b2, b3, -, -, -, -⟩ := blk4 L2.out.2.1
  go_upto_region 4 with (fail)
  generalize (v2.alloc (.cells #[.int .i64 16, .int .i64 0, .string ⟨#[]⟩, .slice (some ⟨w.heap.size, 0, none⟩) 2 2, .int .i64 15, .int .i64 0, .string ⟨#[]⟩, .slice (some ⟨v1.heap.size, 0, none⟩) 2 2] 46)).alloc (.cells #[.int .i64 17, .int .i64 0, .string ⟨#[]⟩, .slice (some ⟨v2.heap.size, 0, none⟩) 2 2] 46) = v3 at *
  have RB : Hid (∀ W, Below v3.heap.size v3 W → RepE W [] bothE [.int .i64 17, .int .i64 0, .string ⟨#[]⟩, .slice (some ⟨v2.heap.size, 0, none⟩) 2 2]) := fun W hW => RepE.kept L3.out.1 (Kept.of_below hW [])
  have BB := Lib.hid L3.out.2.1
  clear L1 L2 L3 HB a0 a1 a2 a3 b0 b1 b2 b3
  generalize v2.heap.size = z at *
  obtain ⟨a0, a1, a2, a3, -, -, -, -⟩ := blk4 BB.out
  go_wp2_with fail
  go_at_call 41
  (with_reducible refine (obsEval_any 5 [] none 0 0 bothE _ v3 (by unfold I64; omega) (RB.out v3 (Below.refl _ _)) (by decide) (SlR.nil _ _ _)).mono ?_)
  rintro x w1 ⟨hx, e1⟩
  rw [bothE_5] at hx
  have hx' : x = .returned (.agg #[.int .i64 2, .int .i64 0, .bool false]) := hx
  subst hx'
  have BB1 := Lib.hid (BB.out.below e1)
  have HB2 := Lib.hid (HB1.out.trans (e1.mono HB1.out.size))
  have RB1 := Lib.hid (RB.out w1 e1)
  clear hx e1 BB HB1 RB a0 a1 a2 a3
  obtain ⟨a0, a1, a2, a3, -, -, -, -⟩ := blk4 BB1.out
  go_wp2_with fail
  go_at_call 41
  (with_reducible refine (obsEval_any 19723 [] none 0 0 bothE _ w1 (by unfold I64; omega) RB1.out (by decide) (SlR.nil _ _ _)).mono ?_)
  rintro x w2 ⟨hx, e1⟩
  rw [bothE_on] at hx
  have hx' : x = .returned (.agg #[.int .i64 0, .int .i64 0, .bool false]) := hx
  subst hx'
  have HB3 := Lib.hid (HB2.out.trans (e1.mono HB2.out.size))
  clear hx e1
  go_wp2_with fail
  go_ret
  exact ⟨rfl, HB3.out⟩
end Go.Proofs.Ytppnmeobnilojaa

/- The contract of ref22.Seen. -/
namespace Go.Proofs.Ytppnmeobnilojaa
set_option linter.unusedVariables false
set_option linter.unusedSimpArgs false
open Go.RowKit
set_option maxRecDepth 100000 in
set_option maxHeartbeats 2000000 in
theorem rseen_any (day : Int) (fx : List Fx) (nm : ByteArray) (a : Option Addr) (len cap : Nat) (w : World) (hS : SlR fxK w [] fx a len cap) :
    Calls Try.prog 37 #[.agg #[.int .i64 day, .slice a len cap], .string nm] w fun x w' => x = seenRt (seenV day fx nm) ∧ Below w.heap.size w w' := by
  obtain ⟨f1, f2, f3⟩ := hS.facts
  have HL := Lib.hid f1
  have hal := (Below.refl w.heap.size w).alloc (Nat.le_refl _) (.cells #[.int .i64 day, .slice a len cap] 58)
  have HS := Lib.hid (hS.kept (Kept.of_below hal []))
  have HB0 := Lib.hid hal
  have BX := Lib.hid (Mem.Blk.new w 58 #[.int .i64 day, .slice a len cap])
  obtain ⟨R, hR⟩ : ∃ R, R = seenRt (seenV day fx nm) := ⟨_, rfl⟩
  rw [← hR]
  have HR := Lib.hid hR
  clear hR hS hal f1
  go_enter Try.func37, Try.ntmps37
  go_upto_region 1 with (fail)
  generalize w.alloc (.cells #[.int .i64 day, .slice a len cap] 58) = v at *
  go_wp2_with fail
  go_loopw [6, 7, 8, 9] (fun u y z i wr => ∃ (k : Nat) (b : Bool) (d n : Int), i = .int .i64 (k : Nat) ∧ u = .bool b ∧ y = .int .i64 d ∧ z = .int .i64 n ∧ k ≤ len ∧ Hid (BestR day nm fx k b d n) ∧ Hid (Below v.heap.size v wr)) (fun _ _ _ i _ => len - (intOf i).toNat)
  case atStart => exact ⟨0, false, 0, 0, rfl, rfl, rfl, rfl, Nat.zero_le _, BestR.start _ _ _, Below.refl _ _⟩
  case round =>
    obtain ⟨k, b, d, n, rfl, rfl, rfl, rfl, hk, HN, HB⟩ := hrel
    have BW := Lib.hid (BX.out.below HB.out)
    obtain ⟨c0, c1, -, -⟩ := BW.out.two
    have HSW := Lib.hid (HS.out.kept (Kept.of_below HB.out []))
    by_cases hlt : k < len
    · have hk' : (k : Int) < (len : Int) := by omega
      obtain ⟨q, o, f, rfl, hbl, -, hf, -, k1, k2, u0, u1, u2⟩ := fx_at HSW.out k hlt
      have HF := Lib.hid hf
      have hal := (Below.refl wr.heap.size wr).alloc (Nat.le_refl _) (.cells #[.string f.name, .int .i64 f.day, .int .i64 f.val] 82)
      have HB2 := Lib.hid (HB.out.trans (hal.mono HB.out.size))
      have BF := Lib.hid (Mem.Blk.new wr 82 #[.string f.name, .int .i64 f.day, .int .i64 f.val])
      have BW2 := Lib.hid (BW.out.below hal)
      clear hf hal HSW HB HS BX BW
      go_upto_region 8 with (fail)
      generalize wr.alloc (.cells #[.string f.name, .int .i64 f.day, .int .i64 f.val] 82) = v2 at *
      generalize wr.heap.size = h2 at *
      clear c0 c1 u0 u1 u2
      obtain ⟨c0, c1, -, -⟩ := BW2.out.two
      have d0 : v2.cell? ⟨h2, 0, none⟩ = _ := BF.out.cell 0
      have d1 : v2.cell? ⟨h2, 1, none⟩ = _ := BF.out.cell 1
      have d2 : v2.cell? ⟨h2, 2, none⟩ = _ := BF.out.cell 2
      simp only [List.getElem?_toArray, List.getElem?_cons_zero, List.getElem?_cons_succ] at d0 d1 d2
      by_cases hn : f.name = nm
      case neg =>
        have t1 : (f.name.toList == nm.toList) = false := tl_ne hn
        have HX := Lib.hid (HN.out.skip HF.out (fun hh => hn hh.1))
        clear hn HN
        go_wp2_with fail
        go_roundw
        case rel => exact ⟨k + 1, b, _, _, by go_num, rfl, rfl, rfl, by omega, HX.out, HB2.out⟩
        case measure => simp [intOf]; omega
      case pos =>
        by_cases hd : f.day ≤ day
        case neg =>
          have hdd : decide (f.day ≤ day) = false := decide_eq_false hd
          have HX := Lib.hid (HN.out.skip HF.out (fun hh => hd hh.2.1))
          clear HN
          subst hn
          go_wp2_with fail
          go_roundw
          case rel => exact ⟨k + 1, b, _, _, by go_num, rfl, rfl, rfl, by omega, HX.out, HB2.out⟩
          case measure => simp [intOf]; omega
        case pos =>
          have hdd : decide (f.day ≤ day) = true := decide_eq_true hd
          cases b with
          | false =>
            have HX := Lib.hid (HN.out.take HF.out ⟨hn, hd, fun h => by cases h⟩)
            clear HN
            subst hn
            go_wp2_with fail
            go_roundw
            case rel => exact ⟨k + 1, true, _, _, by go_num, rfl, rfl, rfl, by omega, HX.out, HB2.out⟩
            case measure => simp [intOf]; omega
          | true =>
            by_cases hgd : d < f.day
            case pos =>
              have hgg : decide (d < f.day) = true := decide_eq_true hgd
              have HX := Lib.hid (HN.out.take HF.out ⟨hn, hd, fun _ => hgd⟩)
              clear HN
              subst hn
              go_wp2_with fail
              go_roundw
              case rel => exact ⟨k + 1, true, _, _, by go_num, rfl, rfl, rfl, by omega, HX.out, HB2.out⟩
              case measure => simp [intOf]; omega
            case neg =>
              have hgg : decide (d < f.day) = false := decide_eq_false hgd
              have HX := Lib.hid (HN.out.skip HF.out (fun hh => hgd (hh.2.2 rfl)))
              clear HN
              subst hn
              go_wp2_with fail
              go_roundw
              case rel => exact ⟨k + 1, true, _, _, by go_num, rfl, rfl, rfl, by omega, HX.out, HB2.out⟩
              case measure => simp [intOf]; omega
    · have hk' : ¬ (k : Int) < (len : Int) := by omega
      obtain rfl : k = fx.length := by have := HL.out; omega
      have HB2 := Lib.hid (HB0.out.trans (HB.out.mono HB0.out.size))
      obtain rfl : R = .returned (.tuple #[.int .i64 n, .bool b]) := by rw [HR.out, HN.out.done]
      clear HR HN
      go_wp2_with fail
      go_ret2
      exact ⟨rfl, HB2.out⟩
end Go.Proofs.Ytppnmeobnilojaa

/- The walk of ObsSees, for any fixings. -/
namespace Go.Proofs.Ytppnmeobnilojaa
set_option linter.unusedVariables false
set_option linter.unusedSimpArgs false
open Go.RowKit
theorem seenRt_form (v : Vl) : ∃ n b, seenRt v = .returned (.tuple #[.int .i64 n, .bool b]) := by cases v <;> exact ⟨_, _, rfl⟩
set_option maxRecDepth 100000 in
set_option maxHeartbeats 2000000 in
theorem obsSees_any (day : Int) (fx : List Fx) (a : Option Addr) (len cap : Nat) (nm : ByteArray) (w : World) (hS : SlR fxK w [] fx a len cap) (_ : I64 day) (_ : nm.size ≤ maxLen) :
    Calls Try.prog 8 #[.agg #[.int .i64 day, .slice a len cap], .string nm] w fun e w' => e = .returned (.bool true) ∧ Below w.heap.size w w' := by
  obtain ⟨f1, f2, f3⟩ := hS.facts
  have hal := (Below.refl w.heap.size w).alloc (Nat.le_refl _) (.cells #[.int .i64 day, .slice a len cap] 58)
  have HSS := Lib.hid (hS.kept (Kept.of_below hal []))
  have HB0 := Lib.hid hal
  have BX := Lib.hid (Mem.Blk.new w 58 #[.int .i64 day, .slice a len cap])
  have HL := Lib.hid f1
  clear hal hS f1
  go_enter Try.func8, Try.ntmps8
  go_upto_region 1 with (fail)
  generalize w.alloc (.cells #[.int .i64 day, .slice a len cap] 58) = v at *
  obtain ⟨c0, c1, -, -⟩ := BX.out.two
  by_cases hg : 200 < len
  · have hg' : (200 : Int) < (len : Int) := by omega
    go_wp2_with fail
    go_at_call 34
    (with_reducible refine (awake22_any _).mono ?_)
    rintro e w1 ⟨rfl, b1⟩
    have HB1 := Lib.hid (HB0.out.trans (b1.mono HB0.out.size))
    clear b1
    go_wp2_with fail
    go_ret
    exact ⟨rfl, HB1.out⟩
  · have hg' : ¬ (200 : Int) < (len : Int) := by omega
    go_wp2_with fail
    go_at_call 36
    (with_reducible refine (env_any day fx a len cap v HSS.out (by omega)).mono ?_)
    rintro e w1 ⟨⟨a', cap', rfl, hV⟩, b1⟩
    have HB1 := Lib.hid (HB0.out.trans (b1.mono HB0.out.size))
    have HS1 := Lib.hid (HSS.out.kept (Kept.of_below b1 []))
    have BX1 := Lib.hid (BX.out.below b1)
    have HV := Lib.hid hV
    clear b1 hV HB0 HSS BX c0 c1
    go_wp2_with fail
    go_at_call 35
    (with_reducible refine (seen_any day fx nm a' _ cap' w1 HV.out).mono ?_)
    rintro e w2 ⟨rfl, b2⟩
    have HB2 := Lib.hid (HB1.out.trans (b2.mono HB1.out.size))
    have HS2 := Lib.hid (HS1.out.kept (Kept.of_below b2 []))
    have BX2 := Lib.hid (BX1.out.below b2)
    have HC := Lib.hid (fun W (hW : SlR fxK W [] fx a len cap) => rseen_any day fx nm a len cap W hW)
    obtain ⟨n, b, hnb⟩ := seenRt_form (seenV day fx nm)
    rw [hnb] at HC ⊢
    obtain ⟨c0, c1, -, -⟩ := BX2.out.two
    clear b2 HB1 HS1 BX1 HV hnb
    go_wp2_with fail
    go_at_call 37
    (with_reducible refine (HC.out w2 HS2.out).mono ?_)
    rintro e w3 ⟨rfl, b3⟩
    have HB3 := Lib.hid (HB2.out.trans (b3.mono HB2.out.size))
    clear b3 HB2 HS2 HC
    go_wp2_with fail
    go_at_call 34
    (with_reducible refine (awake22_any _).mono ?_)
    rintro e w4 ⟨rfl, b4⟩
    have HB4 := Lib.hid (HB3.out.trans (b4.mono HB3.out.size))
    clear b4
    go_wp2_with fail
    go_ret
    exact ⟨rfl, HB4.out⟩
end Go.Proofs.Ytppnmeobnilojaa

/- What came in, opened: fixings, and what is seen. -/
namespace Go.Proofs.Ytppnmeobnilojaa
set_option linter.unusedVariables false
set_option linter.unusedSimpArgs false
open Go.ChangeShapes Go.WideShapes Go.ChangeAt Go.RowKit Go.Deep
theorem three_list {α : Type} {cs : List α} (h : cs.length = 3) {a b c : α} (h0 : cs[0]? = some a) (h1 : cs[1]? = some b) (h2 : cs[2]? = some c) : cs = [a, b, c] := by
  match cs, h with
  | [p, q, r], _ => simp at h0 h1 h2; subst h0; subst h1; subst h2; rfl
theorem two_list {α : Type} {cs : List α} (h : cs.length = 2) {a b : α} (h0 : cs[0]? = some a) (h1 : cs[1]? = some b) : cs = [a, b] := by
  match cs, h with
  | [p, q], _ => simp at h0 h1; subst h0; subst h1; rfl
theorem opens_fixing : Opens Try.prog 82 fxK := by
  intro H enc W fuel cs x h
  obtain ⟨hl, hf⟩ := opens_struct Try.underlying82 (by kernel_rfl) (by kernel_rfl) h
  obtain ⟨v0, n0, y0, c0, t0⟩ := hf 0 _ rfl
  obtain ⟨v1, n1, y1, c1, t1⟩ := hf 1 _ rfl
  obtain ⟨v2, n2, y2, c2, t2⟩ := hf 2 _ rfl
  obtain ⟨s, e0, _, w0⟩ := DataW.trod_string Try.underlying9 t0
  obtain ⟨a, e1, _, w1⟩ := DataW.trod_int (k := .i64) Try.underlying3 t1
  obtain ⟨b, e2, _, w2⟩ := DataW.trod_int (k := .i64) Try.underlying2 t2
  injection e0 with e0; injection e1 with e1; injection e2 with e2
  subst e0; subst e1; subst e2
  exact ⟨⟨s, a, b⟩, three_list hl c0 c1 c2, (show s.size ≤ 9223372036854775807 by unfold maxLen at w0; omega), i64_of w1, i64_of w2⟩
set_option maxRecDepth 100000 in
theorem env_of {H : Type} {enc : TypeId × Value → H} {W : World} {base : Nat} {v : Value} {x : DataW H × List MemPlace} (hv : Value.okWide Try.prog W .any base 58 v) (k : ∃ fuel, DataW.trod enc Try.prog W 0 (fun _ => true) true fuel 58 (Value.cells v).toList = some x) :
    ∃ day a len cap fx, v = .agg #[.int .i64 day, .slice a len cap] ∧ I64 day ∧ SlR fxK W [] fx a len cap := by
  obtain ⟨cs, rfl, -⟩ := okWide_struct Try.underlying58 hv
  obtain ⟨fuel, h⟩ := k
  obtain ⟨hl, hf⟩ := opens_struct Try.underlying58 (by kernel_rfl) (by kernel_rfl) h
  obtain ⟨v0, n0, y0, c0, t0⟩ := hf 0 _ rfl
  obtain ⟨v1, n1, y1, c1, t1⟩ := hf 1 _ rfl
  obtain ⟨a, e0, _, w0⟩ := DataW.trod_int (k := .i64) Try.underlying3 t0
  obtain ⟨p, len, cap, l, e1, hS⟩ := opens_slice (K := fxK) Try.underlying56 (by kernel_rfl) opens_fixing t1
  injection e0 with e0; injection e1 with e1
  subst e0; subst e1
  refine ⟨a, p, len, cap, l, ?_, i64_of w0, hS⟩
  have hcs : cs.toList = [.int .i64 a, .slice p len cap] := two_list hl c0 c1
  rw [show cs = #[.int .i64 a, .slice p len cap] by rw [← Array.toArray_toList (xs := cs), hcs]]
set_option maxRecDepth 100000 in
theorem fixing_of {H : Type} {enc : TypeId × Value → H} {W : World} {base : Nat} {v : Value} {x : DataW H × List MemPlace} (hv : Value.okWide Try.prog W .any base 82 v) (k : ∃ fuel, DataW.trod enc Try.prog W 0 (fun _ => true) true fuel 82 (Value.cells v).toList = some x) :
    ∃ f : Fx, v = .agg #[.string f.name, .int .i64 f.day, .int .i64 f.val] ∧ f.name.size ≤ 9223372036854775807 ∧ I64 f.day ∧ I64 f.val := by
  obtain ⟨cs, rfl, -⟩ := okWide_struct Try.underlying82 hv
  obtain ⟨fuel, h⟩ := k
  obtain ⟨f, hf, h1, h2, h3⟩ := opens_fixing H enc W fuel _ x h
  refine ⟨f, ?_, h1, h2, h3⟩
  have hcs : cs.toList = [.string f.name, .int .i64 f.day, .int .i64 f.val] := hf
  rw [show cs = #[.string f.name, .int .i64 f.day, .int .i64 f.val] by rw [← Array.toArray_toList (xs := cs), hcs]]
end Go.Proofs.Ytppnmeobnilojaa
