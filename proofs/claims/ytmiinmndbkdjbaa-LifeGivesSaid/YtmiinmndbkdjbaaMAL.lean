/- A part of the proof: LiP, Fr, LiM, LiW, LiT, LiU, LiN, one behind another. -/
import Derived.Test.YtmiinmndbkdjbaaMAA
import Derived.Test.YtmiinmndbkdjbaaMAB
import Derived.Test.YtmiinmndbkdjbaaMAC
import Derived.Test.YtmiinmndbkdjbaaMAD
import Derived.Test.YtmiinmndbkdjbaaMAE
import Derived.Test.YtmiinmndbkdjbaaMAF
import Derived.Test.YtmiinmndbkdjbaaMAG
import Derived.Test.YtmiinmndbkdjbaaMAH
import Derived.Test.YtmiinmndbkdjbaaMAI
import Derived.Test.YtmiinmndbkdjbaaMAJ
import Derived.Test.YtmiinmndbkdjbaaMAK
import Derived.Maps.OwnSet
import Derived.Deep.DeepCutAuto
import Derived.LoopTactic
import Derived.Deep.CutBlock
import Derived.BigQuiet
import Derived.Deep.QuietTactic
/- What comes of terms that are acquired: plain. -/
namespace Go.Proofs.Ytmiinmndbkdjbaa
set_option linter.unusedVariables false
set_option linter.unusedSimpArgs false
open Go.RowKit
/-- What of a contract goes on. -/
structure Prt where
  factor : Int
  turned : Bool
  til : List Ex
  term : Te
/-- What came so far. -/
structure RS where
  ps : List Prt
  fs : List Flw
  bad : Bool
def zE : Ex := .mk 0 0 ⟨#[]⟩ []
def zT : Te := .mk 0 ⟨#[]⟩ [] []
def t0 (t : Te) : Te := t.terms.getD 0 zT
def t1 (t : Te) : Te := t.terms.getD 1 zT
def x0 (t : Te) : Ex := t.exprs.getD 0 zE
/-- A Scale or a When, its value being v. -/
def waitW (acq : Te → Int → Bool → List Ex → RS → RS) (v : Vl) (t : Te) (f : Int) (tn : Bool) (un : List Ex) (s : RS) : RS :=
  if v.K = 3 then { s with bad := true }
  else if t.op = 6 ∧ v.K = 1 then acq (t0 t) (fitN (fitI (f * v.N))) tn un { s with bad := !(fitB (fitI (f * v.N))) }
  else if t.op = 7 ∧ v.B = true then acq (t0 t) f tn un s
  else { s with ps := s.ps ++ [⟨f, tn, un, t⟩] }
noncomputable def acqB (day : Int) (fx : List Fx) (A : Te → Int → Bool → List Ex → RS → RS) (t : Te) (f : Int) (tn : Bool) (un : List Ex) (s : RS) : RS :=
  if s.bad = true then s
  else if t.op = 2 then (if f = 0 then s else { s with fs := s.fs ++ [⟨t.nm, f⟩] })
  else if t.op = 3 then A (t0 t) (fitN (fitI (-f))) (!tn) un { s with bad := !(fitB (fitI (-f))) }
  else if t.op = 4 then A (t1 t) f tn un (A (t0 t) f tn un s)
  else if t.op = 8 then
    (if (evalX day fx (x0 t)).K = 3 then { s with bad := true }
     else if (evalX day fx (x0 t)).B = true then s
     else A (t0 t) f tn (un ++ [x0 t]) s)
  else if t.op = 6 ∨ t.op = 7 then waitW A (evalX day fx (x0 t)) t f tn un s
  else if t.op = 5 ∨ t.op = 9 then { s with ps := s.ps ++ [⟨f, tn, un, t⟩] }
  else s
noncomputable def acqF (day : Int) (fx : List Fx) : Nat → Te → Int → Bool → List Ex → RS → RS
  | 0 => fun _ _ _ _ s => s
  | r + 1 => acqB day fx (acqF day fx r)
theorem acqF_bad (day : Int) (fx : List Fx) (r : Nat) (t : Te) (f : Int) (tn : Bool) (un : List Ex) (s : RS) (h : s.bad = true) : acqF day fx r t f tn un s = s := by
  cases r with
  | zero => rfl
  | succ r => show acqB day fx _ t f tn un s = s; unfold acqB; rw [if_pos h]
/-- A term's parts that are reached. -/
theorem te_kids {t : Te} (hb : bT t = true) : (t.op = 3 ∨ t.op = 6 ∨ t.op = 7 ∨ t.op = 8 ∨ t.op = 9 → t.terms = [t0 t]) ∧ (t.op = 4 ∨ t.op = 5 → t.terms = [t0 t, t1 t]) ∧ (t.op = 6 ∨ t.op = 7 ∨ t.op = 8 ∨ t.op = 9 → t.exprs = [x0 t]) ∧ 1 ≤ t.op ∧ t.op ≤ 9 := by
  obtain ⟨op, nm, x, l⟩ := t
  obtain ⟨h1, h2, -⟩ := bT_inv hb
  unfold arX at h1
  unfold arT at h2
  unfold t0 t1 x0
  show (op = 3 ∨ op = 6 ∨ op = 7 ∨ op = 8 ∨ op = 9 → l = [l.getD 0 zT]) ∧ (op = 4 ∨ op = 5 → l = [l.getD 0 zT, l.getD 1 zT]) ∧ (op = 6 ∨ op = 7 ∨ op = 8 ∨ op = 9 → x = [x.getD 0 zE]) ∧ 1 ≤ op ∧ op ≤ 9
  have one : ∀ {α : Type} (l : List α) (d : α), l.length = 1 → l = [l.getD 0 d] := by
    intro α l d h
    match l, h with
    | [a], _ => rfl
  have two : ∀ {α : Type} (l : List α) (d : α), l.length = 2 → l = [l.getD 0 d, l.getD 1 d] := by
    intro α l d h
    match l, h with
    | [a, b], _ => rfl
  refine ⟨fun h => one l zT ?_, fun h => two l zT ?_, fun h => one x zE ?_, ?_, ?_⟩
  · rw [if_neg (by omega)] at h2
    split at h2
    · omega
    · rw [if_neg (by omega), if_pos (by omega)] at h2; omega
  · rw [if_neg (by omega), if_neg (by omega), if_pos (by omega)] at h2; omega
  · rw [if_neg (by omega), if_pos (by omega)] at h1; omega
  · split at h1
    · omega
    · split at h1 <;> omega
  · split at h1
    · omega
    · split at h1 <;> omega
theorem rk_kid {t u : Te} (h : u ∈ t.terms) : u.rk < t.rk := by
  obtain ⟨op, nm, x, l⟩ := t
  obtain ⟨k, hk⟩ := List.getElem?_of_mem h
  exact Te.rk_lt hk
theorem rk_kidX {t : Te} {e : Ex} (h : e ∈ t.exprs) : e.rk < t.rk := by
  obtain ⟨op, nm, x, l⟩ := t
  have h1 := Ex.rk_mem h
  have h2 : (Te.mk op nm x l).rk = 1 + max (Ex.rk.go x) (Te.rk.go l) := rfl
  have h3 : Ex.rk.go (Te.mk op nm x l).exprs = Ex.rk.go x := rfl
  omega
theorem bT_kid {t u : Te} (hb : bT t = true) (h : u ∈ t.terms) : bT u = true := by
  obtain ⟨op, nm, x, l⟩ := t
  obtain ⟨-, -, -, -, h5⟩ := bT_inv hb
  exact h5 u h
theorem waitW_ext {A B : Te → Int → Bool → List Ex → RS → RS} {v : Vl} {t : Te} (h : (t.op = 6 ∨ t.op = 7) → A (t0 t) = B (t0 t)) : waitW A v t = waitW B v t := by
  funext f tn un s
  unfold waitW
  by_cases h3 : v.K = 3
  · rw [if_pos h3, if_pos h3]
  rw [if_neg h3, if_neg h3]
  by_cases h6 : t.op = 6 ∧ v.K = 1
  · rw [if_pos h6, if_pos h6, h (.inl h6.1)]
  rw [if_neg h6, if_neg h6]
  by_cases h7 : t.op = 7 ∧ v.B = true
  · rw [if_pos h7, if_pos h7, h (.inr h7.1)]
  rw [if_neg h7, if_neg h7]
theorem acqB_ext {day : Int} {fx : List Fx} {A B : Te → Int → Bool → List Ex → RS → RS} {t : Te} (h0 : (t.op = 3 ∨ t.op = 6 ∨ t.op = 7 ∨ t.op = 8 ∨ t.op = 9 ∨ t.op = 4 ∨ t.op = 5) → A (t0 t) = B (t0 t)) (h1 : t.op = 4 → A (t1 t) = B (t1 t)) : acqB day fx A t = acqB day fx B t := by
  funext f tn un s
  unfold acqB
  by_cases hbad : s.bad = true
  · rw [if_pos hbad, if_pos hbad]
  rw [if_neg hbad, if_neg hbad]
  by_cases h2 : t.op = 2
  · rw [if_pos h2, if_pos h2]
  rw [if_neg h2, if_neg h2]
  by_cases h3 : t.op = 3
  · rw [if_pos h3, if_pos h3, h0 (by omega)]
  rw [if_neg h3, if_neg h3]
  by_cases h4 : t.op = 4
  · rw [if_pos h4, if_pos h4, h0 (by omega), h1 h4]
  rw [if_neg h4, if_neg h4]
  by_cases h8 : t.op = 8
  · rw [if_pos h8, if_pos h8, h0 (by omega)]
  rw [if_neg h8, if_neg h8]
  by_cases h6 : t.op = 6 ∨ t.op = 7
  · rw [if_pos h6, if_pos h6, waitW_ext (A := A) (B := B) (fun _ => h0 (by omega))]
  rw [if_neg h6, if_neg h6]
theorem kids_ext {t : Te} (hb : bT t = true) {A B : Te → Int → Bool → List Ex → RS → RS} (h : ∀ u ∈ t.terms, A u = B u) : ((t.op = 3 ∨ t.op = 6 ∨ t.op = 7 ∨ t.op = 8 ∨ t.op = 9 ∨ t.op = 4 ∨ t.op = 5) → A (t0 t) = B (t0 t)) ∧ (t.op = 4 → A (t1 t) = B (t1 t)) := by
  obtain ⟨k1, k2, -⟩ := te_kids hb
  refine ⟨fun h' => h _ ?_, fun h' => h _ ?_⟩
  · by_cases h4 : t.op = 4 ∨ t.op = 5
    · rw [k2 h4]; exact List.mem_cons_self ..
    · rw [k1 (by omega)]; exact List.mem_cons_self ..
  · rw [k2 (.inl h')]; exact List.mem_cons_of_mem _ (List.mem_cons_self ..)
theorem acqF_up (day : Int) (fx : List Fx) : ∀ (r : Nat) (t : Te), bT t = true → t.rk ≤ r → acqF day fx (r + 1) t = acqF day fx r t := by
  intro r
  induction r with
  | zero =>
    intro t hb hr
    obtain ⟨op, nm, x, l⟩ := t
    have h2 : (Te.mk op nm x l).rk = 1 + max (Ex.rk.go x) (Te.rk.go l) := rfl
    omega
  | succ r ih =>
    intro t hb hr
    obtain ⟨i0, i1⟩ := kids_ext hb (A := acqF day fx (r + 1)) (B := acqF day fx r) (fun u hu => ih u (bT_kid hb hu) (by have := rk_kid hu; omega))
    exact acqB_ext i0 i1
theorem acqF_to (day : Int) (fx : List Fx) {t : Te} (hb : bT t = true) : ∀ {r q : Nat}, t.rk ≤ r → r ≤ q → acqF day fx q t = acqF day fx r t := by
  intro r q h1 h2
  obtain ⟨d, rfl⟩ := Nat.exists_eq_add_of_le h2
  clear h2
  induction d with
  | zero => rfl
  | succ d ih => rw [← Nat.add_assoc, acqF_up day fx (r + d) t hb (by omega), ih]
/-- What comes of a term. -/
noncomputable def acq (day : Int) (fx : List Fx) (t : Te) : Int → Bool → List Ex → RS → RS := acqF day fx t.rk t
theorem acq_of (day : Int) (fx : List Fx) {t : Te} (hb : bT t = true) {r : Nat} (h : t.rk ≤ r) : acqF day fx r t = acq day fx t := acqF_to day fx hb (Nat.le_refl _) h
theorem acq_bad {day : Int} {fx : List Fx} {t : Te} {f : Int} {tn : Bool} {un : List Ex} {s : RS} (h : s.bad = true) : acq day fx t f tn un s = s := acqF_bad _ _ _ _ _ _ _ _ h
theorem acq_eq (day : Int) (fx : List Fx) {t : Te} (hb : bT t = true) (f : Int) (tn : Bool) (un : List Ex) (s : RS) : acq day fx t f tn un s = acqB day fx (acq day fx) t f tn un s := by
  obtain ⟨i0, i1⟩ := kids_ext hb (A := acqF day fx t.rk) (B := acq day fx) (fun u hu => acq_of day fx (bT_kid hb hu) (by have := rk_kid hu; omega))
  have e : acq day fx t = acqF day fx (t.rk + 1) t := (acq_of day fx hb (by omega)).symm
  rw [e]
  exact congrFun (congrFun (congrFun (congrFun (acqB_ext i0 i1) f) tn) un) s
end Go.Proofs.Ytmiinmndbkdjbaa

/- What a call that writes the blocks of X leaves: all other blocks stay. -/
namespace Go.Proofs.Ytmiinmndbkdjbaa
set_option linter.unusedVariables false
set_option linter.unusedSimpArgs false
open Go.RowKit
structure Fr (X : List Nat) (w w' : World) : Prop where
  os : w'.os = w.os
  tape : w'.tape = w.tape
  output : w'.output = w.output
  kept : Kept X w w'
section
variable {X X' : List Nat} {w w' w'' : World}
theorem Fr.refl (X : List Nat) (w : World) : Fr X w w := ⟨rfl, rfl, rfl, Kept.refl w X⟩
theorem Fr.trans (h : Fr X w w') (k : Fr X w' w'') : Fr X w w'' := ⟨k.os.trans h.os, k.tape.trans h.tape, k.output.trans h.output, h.kept.trans k.kept⟩
theorem Fr.more (h : Fr X w w') (hX : ∀ b, b ∈ X → b ∈ X') : Fr X' w w' := ⟨h.os, h.tape, h.output, h.kept.more hX⟩
theorem Fr.of_below (h : Below w.heap.size w w') (X : List Nat) : Fr X w w' := ⟨h.os, h.tape, h.output, Kept.of_below h X⟩
theorem Fr.alloc (w : World) (o : Obj) (X : List Nat) : Fr X w (w.alloc o) := .of_below ((Below.refl _ w).alloc (Nat.le_refl _) o) X
theorem Fr.drew (w : World) (X : List Nat) : Fr X w w.drew := .of_below (Below.refl _ w).drew X
theorem Fr.of_grown {g : Nat} (h : w.grownBy w' (some g)) (hg : g ∈ X) : Fr X w w' :=
  have b : Below 0 w w' := (Below.refl 0 w).grown h (Nat.zero_le _) (fun _ _ => Nat.zero_le _)
  ⟨b.os, b.tape, b.output, Kept.of_grown h hg⟩
theorem Fr.setCell (w : World) {p : Addr} (hp : p.block ∈ X) (v : Value) : Fr X w (w.setCell p v) :=
  have b : Below 0 w (w.setCell p v) := (Below.refl 0 w).setCell (Nat.zero_le _) v
  ⟨b.os, b.tape, b.output, Kept.setCell w hp v⟩
theorem Fr.size (h : Fr X w w') : w.heap.size ≤ w'.heap.size := h.kept.1
theorem Fr.below {B : Nat} (h : Fr X w w') (hB : B ≤ w.heap.size) (hX : ∀ b ∈ X, B ≤ b) : Below B w w' :=
  ⟨h.os, h.tape, h.output, h.kept.1, fun k hk => h.kept.2 k (by omega) (fun hm => by have := hX k hm; omega)⟩
/-- What was written in new blocks is nothing. -/
theorem Fr.fresh (h : Fr X w w') (hX : ∀ b ∈ X, b ∈ X' ∨ w.heap.size ≤ b) : Fr X' w w' :=
  ⟨h.os, h.tape, h.output, h.kept.1, fun b hb hx => h.kept.2 b hb (fun hm => (hX b hm).elim hx (fun h1 => by omega))⟩
theorem Fr.blk {g : Nat} {t : TypeId} {cs : Array Value} (h : Fr X w w') (hB : Mem.Blk w g t cs) (hg : g ∉ X) : Mem.Blk w' g t cs := (h.kept.2 g hB.lt hg).trans hB
theorem Fr.map {H : Type} {P : Program} {k : TypeId} {R : Value → Option (DataW H × List MemPlace)} {b n : Nat} {D : DataW H} (h : Fr X w w') (hM : w.ownsMap P k R b n D) (hg : b ∉ X) : w'.ownsMap P k R b n D := by
  have hlt := hM.lt
  obtain ⟨es, clock, hb, r⟩ := hM
  exact ⟨es, clock, (h.kept.2 b hlt hg).trans hb, r⟩
theorem Fr.cell {p : Addr} {v : Value} (h : Fr X w w') (hc : w.cell? p = some v) (hg : p.block ∉ X) : w'.cell? p = some v := by
  have hlt : p.block < w.heap.size := by
    rcases Nat.lt_or_ge p.block w.heap.size with h1 | h1
    · exact h1
    · have : w.heap[p.block]? = none := Array.getElem?_eq_none h1
      simp [World.cell?, this] at hc
  rw [World.cell?_of_block (w := w) (h.kept.2 p.block hlt hg)]; exact hc
end
end Go.Proofs.Ytmiinmndbkdjbaa

/- Parts in memory; what a run holds. -/
namespace Go.Proofs.Ytmiinmndbkdjbaa
set_option linter.unusedVariables false
set_option linter.unusedSimpArgs false
open Go.RowKit
def ptK : Elt Prt where
  sz := 7
  pos := by decide
  R := fun w X p cs => ∃ a cap ct, cs = .int .i64 p.factor :: .bool p.turned :: .slice a p.til.length cap :: ct ∧ I64 p.factor ∧ SlR exK w X p.til a p.til.length cap ∧ RepT w X p.term ct
  kept := fun h k => by obtain ⟨a, cap, ct, h1, h2, h3, h4⟩ := h; exact ⟨a, cap, ct, h1, h2, h3.kept k, h4.kept k⟩
  less := fun h k => by obtain ⟨a, cap, ct, h1, h2, h3, h4⟩ := h; exact ⟨a, cap, ct, h1, h2, h3.less k, h4.less k⟩
  one := fun h => by
    obtain ⟨a, cap, ct, rfl, h2, h3, h4⟩ := h
    obtain ⟨l1, l2⟩ := h4.one
    refine ⟨by simp [l1], fun u hu => ?_⟩
    rcases List.mem_cons.1 hu with rfl | hu
    · rfl
    rcases List.mem_cons.1 hu with rfl | hu
    · rfl
    rcases List.mem_cons.1 hu with rfl | hu
    · rfl
    exact l2 u hu
/-- A run: its parts, its flows, its own block; what is seen. -/
def famR (base rb : Nat) (day : Int) (fx : List Fx) (fa : Option Addr) (fl fc : Nat) (s : RS) (vP vF : Value) : List Ob :=
  [gr ptK 71 base s.ps vP, gr flK 55 base s.fs vF, bx rb 68 #[.int .i64 day, .slice fa fl fc, vP, vF, .bool s.bad], sl fxK fx fa fl fc]
structure RunJ (base rb : Nat) (day : Int) (fx : List Fx) (fa : Option Addr) (fl fc : Nat) (w : World) (s : RS) (vP vF : Value) : Prop where
  sep : Sep w (famR base rb day fx fa fl fc s vP vF)
def X3 (rb : Nat) (vP vF : Value) : List Nat := vP.ownBlock.toList ++ (vF.ownBlock.toList ++ [rb])
section
variable {base rb : Nat} {day : Int} {fx : List Fx} {fa : Option Addr} {fl fc : Nat} {w w' : World} {s : RS} {vP vF vP' vF' : Value}
theorem owns_famR : owns (famR base rb day fx fa fl fc s vP vF) = X3 rb vP vF := by
  show vP.ownBlock.toList ++ (vF.ownBlock.toList ++ ([rb] ++ ([] ++ []))) = _
  rfl
/-- What a run leaves, and where it wrote. -/
structure RunTo (base rb : Nat) (day : Int) (fx : List Fx) (fa : Option Addr) (fl fc : Nat) (w w' : World) (vP vF : Value) (s : RS) (vP' vF' : Value) : Prop where
  run : RunJ base rb day fx fa fl fc w' s vP' vF'
  fr : Fr (X3 rb vP vF) w w'
  new : ∀ b ∈ X3 rb vP' vF', (b ∈ X3 rb vP vF ∨ w.heap.size ≤ b) ∧ b < w'.heap.size
theorem RunJ.lt (h : RunJ base rb day fx fa fl fc w s vP vF) : ∀ b ∈ X3 rb vP vF, b < w.heap.size := by rw [← owns_famR (base := base) (day := day) (fx := fx) (fa := fa) (fl := fl) (fc := fc) (s := s)]; exact h.sep.lt
theorem RunJ.to (h : RunJ base rb day fx fa fl fc w s vP vF) : RunTo base rb day fx fa fl fc w w vP vF s vP vF := ⟨h, Fr.refl _ _, fun b hb => ⟨.inl hb, h.lt b hb⟩⟩
theorem RunTo.trans {w2 : World} {s2 : RS} {vP2 vF2 : Value} (h : RunTo base rb day fx fa fl fc w w' vP vF s vP' vF') (k : RunTo base rb day fx fa fl fc w' w2 vP' vF' s2 vP2 vF2) : RunTo base rb day fx fa fl fc w w2 vP vF s2 vP2 vF2 :=
  ⟨k.run, ⟨k.fr.os.trans h.fr.os, k.fr.tape.trans h.fr.tape, k.fr.output.trans h.fr.output, Nat.le_trans h.fr.size k.fr.size, fun b hb hx => (k.fr.kept.2 b (Nat.lt_of_lt_of_le hb h.fr.size) (fun hm => by
    rcases (h.new b hm).1 with h1 | h1
    · exact hx h1
    · omega)).trans (h.fr.kept.2 b hb hx)⟩, fun b hb => ⟨by
    rcases (k.new b hb).1 with h1 | h1
    · exact (h.new b h1).1
    · exact .inr (Nat.le_trans h.fr.size h1), (k.new b hb).2⟩⟩
/-- What is only read stays behind a run. -/
theorem RunTo.rep {α : Type} {K : Elt α} {x : α} {cs : List Value} (h : RunTo base rb day fx fa fl fc w w' vP vF s vP' vF') (hR : K.R w (X3 rb vP vF) x cs) : K.R w' (X3 rb vP' vF') x cs :=
  K.to hR h.fr.kept (fun b hb => hb) (fun b hb => (h.new b hb).1)
theorem RunTo.slr {α : Type} {K : Elt α} {l : List α} {a : Option Addr} {len cap : Nat} (h : RunTo base rb day fx fa fl fc w w' vP vF s vP' vF') (hR : SlR K w (X3 rb vP vF) l a len cap) : SlR K w' (X3 rb vP' vF') l a len cap :=
  hR.to h.fr.kept (fun b hb => hb) (fun b hb => (h.new b hb).1)
/-- Memory is made, or read. -/
theorem RunJ.below (h : RunJ base rb day fx fa fl fc w s vP vF) (hb : Below w.heap.size w w') : RunTo base rb day fx fa fl fc w w' vP vF s vP vF :=
  ⟨⟨h.sep.below hb⟩, Fr.of_below hb _, fun b hm => ⟨.inl hm, Nat.lt_of_lt_of_le (h.lt b hm) hb.size⟩⟩
theorem RunJ.cells (h : RunJ base rb day fx fa fl fc w s vP vF) : Mem.Blk w rb 68 #[.int .i64 day, .slice fa fl fc, vP, vF, .bool s.bad] := h.sep.blk 2 rfl
theorem RunJ.seen (h : RunJ base rb day fx fa fl fc w s vP vF) : SlR fxK w [] fx fa fl fc := (h.sep.at 3 rfl : SlR fxK w _ fx fa fl fc).less (fun b _ hm => nomatch hm)
/-- It breaks, or not. -/
theorem RunJ.setBad (h : RunJ base rb day fx fa fl fc w s vP vF) (b : Bool) : RunTo base rb day fx fa fl fc w (w.setCell ⟨rb, 4, none⟩ (.bool b)) vP vF { s with bad := b } vP vF :=
  ⟨⟨h.sep.store 2 rfl 4 (.bool b)⟩, Fr.setCell w (p := ⟨rb, 4, none⟩) (by unfold X3; simp) _, fun q hm => ⟨.inl hm, by rw [World.size_setCell]; exact h.lt q hm⟩⟩
/-- A part more. -/
theorem RunJ.pushP {w1 : World} {csl : List (List Value)} {v' : Value} {x : Prt} {c : List Value} (h : RunJ base rb day fx fa fl fc w s vP vF)
    (hG : Grow ptK 71 base w (others (famR base rb day fx fa fl fc s vP vF) 0) s.ps vP csl)
    (hR : ptK.R w (X3 rb vP vF) x c)
    (ho : w1.ownsRow base 71 7 v' (s.ps.length + 1) (csl.flatten ++ c)) (hg : w.grownBy w1 vP.ownBlock) (hv : v'.ownBlock = vP.ownBlock ∨ v'.ownBlock = some w.heap.size) :
    RunTo base rb day fx fa fl fc w (w1.setCell ⟨rb, 2, none⟩ v') vP vF { s with ps := s.ps ++ [x] } v' vF := by
  have h1 := h.sep.push 0 rfl hG (x := x) (c := c) (by rw [owns_famR]; exact hR) ho hg hv
  have h2 := h1.store 2 rfl 2 v'
  have hj : RunJ base rb day fx fa fl fc (w1.setCell ⟨rb, 2, none⟩ v') { s with ps := s.ps ++ [x] } v' vF := ⟨h2⟩
  have hk := hG.row hg
  have hs : (w1.setCell ⟨rb, 2, none⟩ v').heap.size = w1.heap.size := World.size_setCell ..
  refine ⟨hj, ⟨hg.os, hg.tape, hg.output, ?_⟩, fun b hb => ⟨?_, hj.lt b hb⟩⟩
  · refine (Kept.trans (hk.more (X' := X3 rb vP vF) (fun b hb => by unfold X3; exact List.mem_append_left _ hb)) (Kept.setCell w1 (p := ⟨rb, 2, none⟩) (by unfold X3; simp) v'))
  · unfold X3 at hb ⊢
    rcases List.mem_append.1 hb with hb | hb
    · exact or_map (own_next hv b hb) (fun h => List.mem_append_left _ h) id
    · exact .inl (List.mem_append_right _ hb)
theorem RunJ.pushF {w1 : World} {csl : List (List Value)} {v' : Value} {x : Flw} {c : List Value} (h : RunJ base rb day fx fa fl fc w s vP vF)
    (hG : Grow flK 55 base w (others (famR base rb day fx fa fl fc s vP vF) 1) s.fs vF csl)
    (hR : flK.R w (X3 rb vP vF) x c)
    (ho : w1.ownsRow base 55 2 v' (s.fs.length + 1) (csl.flatten ++ c)) (hg : w.grownBy w1 vF.ownBlock) (hv : v'.ownBlock = vF.ownBlock ∨ v'.ownBlock = some w.heap.size) :
    RunTo base rb day fx fa fl fc w (w1.setCell ⟨rb, 3, none⟩ v') vP vF { s with fs := s.fs ++ [x] } vP v' := by
  have h1 := h.sep.push 1 rfl hG (x := x) (c := c) (by rw [owns_famR]; exact hR) ho hg hv
  have h2 := h1.store 2 rfl 3 v'
  have hj : RunJ base rb day fx fa fl fc (w1.setCell ⟨rb, 3, none⟩ v') { s with fs := s.fs ++ [x] } vP v' := ⟨h2⟩
  have hk := hG.row hg
  refine ⟨hj, ⟨hg.os, hg.tape, hg.output, ?_⟩, fun b hb => ⟨?_, hj.lt b hb⟩⟩
  · refine (Kept.trans (hk.more (X' := X3 rb vP vF) (fun b hb => by unfold X3; exact List.mem_append_right _ (List.mem_append_left _ hb))) (Kept.setCell w1 (p := ⟨rb, 3, none⟩) (by unfold X3; simp) v'))
  · unfold X3 at hb ⊢
    rcases List.mem_append.1 hb with hb | hb
    · exact .inl (List.mem_append_left _ hb)
    rcases List.mem_append.1 hb with hb | hb
    · exact or_map (own_next hv b hb) (fun h => List.mem_append_right _ (List.mem_append_left _ h)) id
    · exact .inl (List.mem_append_right _ (List.mem_append_right _ hb))
end
end Go.Proofs.Ytmiinmndbkdjbaa

/- A part with another term. -/
namespace Go.Proofs.Ytmiinmndbkdjbaa
set_option linter.unusedVariables false
set_option linter.unusedSimpArgs false
open Go.RowKit
theorem blk7 {w : World} {g : Nat} {t : TypeId} {a b c d e f h : Value} (H : Mem.Blk w g t #[a, b, c, d, e, f, h]) : w.cell? ⟨g, 0, none⟩ = some a ∧ w.cell? ⟨g, 1, none⟩ = some b ∧ w.cell? ⟨g, 2, none⟩ = some c ∧ w.cell? ⟨g, 3, none⟩ = some d ∧ w.cell? ⟨g, 4, none⟩ = some e ∧ w.cell? ⟨g, 5, none⟩ = some f ∧ w.cell? ⟨g, 6, none⟩ = some h :=
  ⟨H.cell 0, H.cell 1, H.cell 2, H.cell 3, H.cell 4, H.cell 5, H.cell 6⟩
theorem frz7 {w : World} {g : Nat} {t : TypeId} {a b c d e f h : Value} (H : Mem.Blk w g t #[a, b, c, d, e, f, h]) : w.frozen? ⟨g, 0, none⟩ = false ∧ w.frozen? ⟨g, 1, none⟩ = false ∧ w.frozen? ⟨g, 2, none⟩ = false ∧ w.frozen? ⟨g, 3, none⟩ = false ∧ w.frozen? ⟨g, 4, none⟩ = false ∧ w.frozen? ⟨g, 5, none⟩ = false ∧ w.frozen? ⟨g, 6, none⟩ = false :=
  ⟨H.frozen 0, H.frozen 1, H.frozen 2, H.frozen 3, H.frozen 4, H.frozen 5, H.frozen 6⟩
set_option maxRecDepth 100000 in
set_option maxHeartbeats 4000000 in
theorem partWith_any (f : Int) (tn : Bool) (ua : Option Addr) (ul uc : Nat) (o o' : Int) (s s' : ByteArray) (x y x' y' : Option Addr) (xl xc yl yc xl' xc' yl' yc' : Nat) (w : World) :
    Calls Try.prog 41 #[.agg #[.int .i64 f, .bool tn, .slice ua ul uc, .int .i64 o, .string s, .slice x xl xc, .slice y yl yc], .agg #[.int .i64 o', .string s', .slice x' xl' xc', .slice y' yl' yc']] w fun e w' =>
      e = .returned (.agg #[.int .i64 f, .bool tn, .slice ua ul uc, .int .i64 o', .string s', .slice x' xl' xc', .slice y' yl' yc']) ∧ Below w.heap.size w w' := by
  have h1 := (((Sep.nil w).new 71 #[.int .i64 f, .bool tn, .slice ua ul uc, .int .i64 o, .string s, .slice x xl xc, .slice y yl yc]).new 32 #[.int .i64 o', .string s', .slice x' xl' xc', .slice y' yl' yc']).new 71 #[.int .i64 0, .bool false, .slice none 0 0, .int .i64 0, .string ⟨#[]⟩, .slice none 0 0, .slice none 0 0]
  have hb := ((((Below.refl _ w).alloc (Nat.le_refl _) (.cells #[.int .i64 f, .bool tn, .slice ua ul uc, .int .i64 o, .string s, .slice x xl xc, .slice y yl yc] 71)).alloc (by simp) (.cells #[.int .i64 o', .string s', .slice x' xl' xc', .slice y' yl' yc'] 32)).alloc (by simp; omega) (.cells #[.int .i64 0, .bool false, .slice none 0 0, .int .i64 0, .string ⟨#[]⟩, .slice none 0 0, .slice none 0 0] 71))
  have e1 : (w.alloc (.cells #[.int .i64 f, .bool tn, .slice ua ul uc, .int .i64 o, .string s, .slice x xl xc, .slice y yl yc] 71)).heap.size = w.heap.size + 1 := by simp
  have e2 : ((w.alloc (.cells #[.int .i64 f, .bool tn, .slice ua ul uc, .int .i64 o, .string s, .slice x xl xc, .slice y yl yc] 71)).alloc (.cells #[.int .i64 o', .string s', .slice x' xl' xc', .slice y' yl' yc'] 32)).heap.size = w.heap.size + 1 + 1 := by simp
  rw [e1, e2] at h1
  have HS := Lib.hid h1
  have HB := Lib.hid hb
  clear h1 hb e1 e2
  go_enter Try.func41, Try.ntmps41
  go_upto_region 1 with (fail)
  generalize ((w.alloc (.cells #[.int .i64 f, .bool tn, .slice ua ul uc, .int .i64 o, .string s, .slice x xl xc, .slice y yl yc] 71)).alloc (.cells #[.int .i64 o', .string s', .slice x' xl' xc', .slice y' yl' yc'] 32)).alloc (.cells #[.int .i64 0, .bool false, .slice none 0 0, .int .i64 0, .string ⟨#[]⟩, .slice none 0 0, .slice none 0 0] 71) = v at *
  obtain ⟨c0, c1, c2, c3, -, -, -, -⟩ := blk4 (HS.out.blk 1 rfl)
  obtain ⟨-, -, -, d3, d4, d5, d6⟩ := blk7 (HS.out.blk 2 rfl)
  obtain ⟨-, -, -, f3, f4, f5, f6⟩ := frz7 (HS.out.blk 2 rfl)
  have h2 := (((HS.out.store 2 rfl 3 (.int .i64 o')).store 2 rfl 4 (.string s')).store 2 rfl 5 (.slice x' xl' xc')).store 2 rfl 6 (.slice y' yl' yc')
  have hb2 := (((HB.out.setCell (p := ⟨w.heap.size, 3, none⟩) (Nat.le_refl _) (.int .i64 o')).setCell (p := ⟨w.heap.size, 4, none⟩) (Nat.le_refl _) (.string s')).setCell (p := ⟨w.heap.size, 5, none⟩) (Nat.le_refl _) (.slice x' xl' xc')).setCell (p := ⟨w.heap.size, 6, none⟩) (Nat.le_refl _) (.slice y' yl' yc')
  have HS2 := Lib.hid h2
  have HB2 := Lib.hid hb2
  clear h2 hb2 HS HB
  go_upto_region 2 with (fail)
  generalize (((v.setCell ⟨w.heap.size, 3, none⟩ (.int .i64 o')).setCell ⟨w.heap.size, 4, none⟩ (.string s')).setCell ⟨w.heap.size, 5, none⟩ (.slice x' xl' xc')).setCell ⟨w.heap.size, 6, none⟩ (.slice y' yl' yc') = v2 at *
  clear c0 c1 c2 c3 d3 d4 d5 d6 f3 f4 f5 f6
  obtain ⟨c0, c1, c2, c3, c4, c5, c6⟩ := blk7 (HS2.out.blk 2 rfl)
  obtain ⟨d0, d1, d2, d3, d4, d5, d6⟩ := blk7 (HS2.out.blk 0 rfl)
  obtain ⟨f0, f1, f2, f3, f4, f5, f6⟩ := frz7 (HS2.out.blk 0 rfl)
  have h3 := (((((((HS2.out.store 0 rfl 0 (.int .i64 f)).store 0 rfl 1 (.bool tn)).store 0 rfl 2 (.slice ua ul uc)).store 0 rfl 3 (.int .i64 o')).store 0 rfl 4 (.string s')).store 0 rfl 5 (.slice x' xl' xc')).store 0 rfl 6 (.slice y' yl' yc'))
  have hb3 := (((((((HB2.out.setCell (p := ⟨w.heap.size + 1 + 1, 0, none⟩) (by show w.heap.size ≤ w.heap.size + 1 + 1; omega) (.int .i64 f)).setCell (p := ⟨w.heap.size + 1 + 1, 1, none⟩) (by show w.heap.size ≤ w.heap.size + 1 + 1; omega) (.bool tn)).setCell (p := ⟨w.heap.size + 1 + 1, 2, none⟩) (by show w.heap.size ≤ w.heap.size + 1 + 1; omega) (.slice ua ul uc)).setCell (p := ⟨w.heap.size + 1 + 1, 3, none⟩) (by show w.heap.size ≤ w.heap.size + 1 + 1; omega) (.int .i64 o')).setCell (p := ⟨w.heap.size + 1 + 1, 4, none⟩) (by show w.heap.size ≤ w.heap.size + 1 + 1; omega) (.string s')).setCell (p := ⟨w.heap.size + 1 + 1, 5, none⟩) (by show w.heap.size ≤ w.heap.size + 1 + 1; omega) (.slice x' xl' xc')).setCell (p := ⟨w.heap.size + 1 + 1, 6, none⟩) (by show w.heap.size ≤ w.heap.size + 1 + 1; omega) (.slice y' yl' yc'))
  have HS3 := Lib.hid h3
  have HB3 := Lib.hid hb3
  clear h3 hb3 HS2 HB2
  go_wp2_with fail
  generalize ((((((v2.setCell ⟨w.heap.size + 1 + 1, 0, none⟩ (.int .i64 f)).setCell ⟨w.heap.size + 1 + 1, 1, none⟩ (.bool tn)).setCell ⟨w.heap.size + 1 + 1, 2, none⟩ (.slice ua ul uc)).setCell ⟨w.heap.size + 1 + 1, 3, none⟩ (.int .i64 o')).setCell ⟨w.heap.size + 1 + 1, 4, none⟩ (.string s')).setCell ⟨w.heap.size + 1 + 1, 5, none⟩ (.slice x' xl' xc')).setCell ⟨w.heap.size + 1 + 1, 6, none⟩ (.slice y' yl' yc') = v3 at *
  clear c0 c1 c2 c3 c4 c5 c6 d0 d1 d2 d3 d4 d5 d6 f0 f1 f2 f3 f4 f5 f6
  obtain ⟨r0, r1, r2, r3, r4, r5, r6⟩ := blk7 (HS3.out.blk 0 rfl)
  refine bodyPost_ret (v := .agg #[.int .i64 f, .bool tn, .slice ua ul uc, .int .i64 o', .string s', .slice x' xl' xc', .slice y' yl' yc']) (by simp [results, Try.results41, go_sem, r0, r1, r2, r3, r4, r5, r6]) rfl ⟨rfl, HB3.out⟩
end Go.Proofs.Ytmiinmndbkdjbaa

/- A run's truth; what a run tells. -/
namespace Go.Proofs.Ytmiinmndbkdjbaa
set_option linter.unusedVariables false
set_option linter.unusedSimpArgs false
open Go.RowKit
def orB (s : RS) (v : Vl) : RS := { s with bad := s.bad || decide (v.K = 3) }
set_option maxRecDepth 100000 in
set_option maxHeartbeats 4000000 in
theorem runTruth_any (base rb : Nat) (day : Int) (fx : List Fx) (fa : Option Addr) (fl fc : Nat) (s : RS) (vP vF : Value) (e : Ex) (cs : List Value) (w : World) (hd : I64 day) (hJ : RunJ base rb day fx fa fl fc w s vP vF) (hR : RepE w (X3 rb vP vF) e cs) (hk : e.rk ≤ 1000) :
    Calls Try.prog 42 #[.pointer (some ⟨rb, 0, none⟩), .agg cs.toArray] w fun x w' => x = .returned (.bool (evalX day fx e).B) ∧ RunTo base rb day fx fa fl fc w w' vP vF (orB s (evalX day fx e)) vP vF ∧ Fr [rb] w w' := by
  have HJ := Lib.hid hJ
  have hR0 : RepE w [] e cs := hR.less (fun b _ hm => nomatch hm)
  have HQ := Lib.hid (fun W (hW : Below w.heap.size w W) => obsEval_any day fx fa fl fc e cs W hd (hR0.kept (Kept.of_below hW [])) hk (hJ.seen.kept (Kept.of_below hW [])))
  obtain ⟨v, hv⟩ : ∃ v, v = evalX day fx e := ⟨_, rfl⟩
  rw [← hv] at HQ ⊢
  clear hv
  obtain ⟨op, no, nm, args, a, len, cap, rfl, rfl, -, -, -, -⟩ := hR0.inv
  have HB0 := Lib.hid ((Below.refl w.heap.size w).alloc (Nat.le_refl _) (.cells #[.int .i64 op, .int .i64 no, .string nm, .slice a len cap] 53))
  have BX := Lib.hid (Mem.Blk.new w 53 #[.int .i64 op, .int .i64 no, .string nm, .slice a len cap])
  have HRB : Hid (rb < w.heap.size) := hJ.lt rb (by unfold X3; simp)
  clear hJ hR hR0 hk
  go_enter Try.func42, Try.ntmps42
  go_upto_region 1 with (fail)
  generalize w.alloc (.cells #[.int .i64 op, .int .i64 no, .string nm, .slice a len cap] 53) = w1 at *
  obtain ⟨x0, x1, x2, x3, -, -, -, -⟩ := blk4 BX.out
  have q0 : w1.cell? ⟨rb, 0, none⟩ = some (.int .i64 day) := ((HJ.out.below HB0.out).run.cells).cell 0
  have q1 : w1.cell? ⟨rb, 1, none⟩ = some (.slice fa fl fc) := ((HJ.out.below HB0.out).run.cells).cell 1
  go_cut [5] (fun p W0 => ∃ z, p = .pointer (some ⟨z, 0, none⟩) ∧ Hid (Below w.heap.size w W0) ∧ Hid (w.heap.size ≤ z) ∧ Hid (Mem.Blk W0 z 98 #[.int .i64 v.K, .int .i64 v.N, .bool v.B]))
  case first =>
    refine wp_region_till (S := fun W => W.cell? ⟨w.heap.size, 0, none⟩ = some (.int .i64 op) ∧ W.cell? ⟨w.heap.size, 1, none⟩ = some (.int .i64 no) ∧ W.cell? ⟨w.heap.size, 2, none⟩ = some (.string nm) ∧ W.cell? ⟨w.heap.size, 3, none⟩ = some (.slice a len cap) ∧ W.cell? ⟨rb, 0, none⟩ = some (.int .i64 day) ∧ W.cell? ⟨rb, 1, none⟩ = some (.slice fa fl fc)) 7 (by kernel_rfl) ?_
    refine till_take (i := 0) (v := ?_) rfl (by kernel_rfl) (fun _ _ _ h => h) (Or.inl ⟨by rfl, ?_⟩) ⟨x0,x1,x2,x3,q0,q1⟩ ?_
    rotate_left
    · intro W hS
      try dsimp only at hS
      go_split_ands
      go_simp
      try with_reducible rfl
    try simp only [Act.put, List.getElem_toArray, List.getElem_cons_zero, List.getElem_cons_succ, List.setIfInBounds_toArray, List.set_cons_zero, List.set_cons_succ]
    refine till_take (i := 1) (v := ?_) rfl (by kernel_rfl) (fun _ _ _ h => h) (Or.inl ⟨by rfl, ?_⟩) ⟨x0,x1,x2,x3,q0,q1⟩ ?_
    rotate_left
    · intro W hS
      try dsimp only at hS
      go_split_ands
      go_simp
      try with_reducible rfl
    try simp only [Act.put, List.getElem_toArray, List.getElem_cons_zero, List.getElem_cons_succ, List.setIfInBounds_toArray, List.set_cons_zero, List.set_cons_succ]
    refine till_take (i := 2) (v := ?_) rfl (by kernel_rfl) (fun _ _ _ h => h) (Or.inl ⟨by rfl, ?_⟩) ⟨x0,x1,x2,x3,q0,q1⟩ ?_
    rotate_left
    · intro W hS
      try dsimp only at hS
      go_split_ands
      go_simp
      try with_reducible rfl
    try simp only [Act.put, List.getElem_toArray, List.getElem_cons_zero, List.getElem_cons_succ, List.setIfInBounds_toArray, List.set_cons_zero, List.set_cons_succ]
    refine till_take (i := 3) (v := ?_) rfl (by kernel_rfl) (fun _ _ _ h => h) (Or.inl ⟨by rfl, ?_⟩) ⟨x0,x1,x2,x3,q0,q1⟩ ?_
    rotate_left
    · intro W hS
      try dsimp only at hS
      go_split_ands
      go_simp
      try with_reducible rfl
    try simp only [Act.put, List.getElem_toArray, List.getElem_cons_zero, List.getElem_cons_succ, List.setIfInBounds_toArray, List.set_cons_zero, List.set_cons_succ]
    refine till_take (i := 4) (v := ?_) rfl (by kernel_rfl) (fun _ _ _ h => h) (Or.inl ⟨by rfl, ?_⟩) ⟨x0,x1,x2,x3,q0,q1⟩ ?_
    rotate_left
    · intro W hS
      try dsimp only at hS
      go_split_ands
      go_simp
      try with_reducible rfl
    try simp only [Act.put, List.getElem_toArray, List.getElem_cons_zero, List.getElem_cons_succ, List.setIfInBounds_toArray, List.set_cons_zero, List.set_cons_succ]
    refine till_two (i := 5) (j := 6) (by kernel_rfl) rfl rfl (fun K' hK => ?_) (fun K' hK => ?_)
    · go_simp
      have b0 : Below w1.heap.size w1 w1.drew := (Below.refl w1.heap.size w1).drew
      (with_reducible refine (HQ.out _ (HB0.out.trans (b0.mono HB0.out.size))).mono ?_)
      rintro y w2 ⟨hy, b1⟩
      unfold RetV at hy
      subst hy
      have bt : Below w1.heap.size w1 w2 := b0.trans (b1.mono b0.size)
      replace x0 := cell_up x0 bt
      replace x1 := cell_up x1 bt
      replace x2 := cell_up x2 bt
      replace x3 := cell_up x3 bt
      replace q0 := cell_up q0 bt
      replace q1 := cell_up q1 bt
      have HB2 := Lib.hid (HB0.out.trans (bt.mono HB0.out.size))
      refine hK _ _ ⟨x0, x1, x2, x3, q0, q1⟩ ?_
      clear hK K' b0 b1 bt HB0 BX
      try simp only [Act.put, List.getElem_toArray, List.getElem_cons_zero, List.getElem_cons_succ, List.setIfInBounds_toArray, List.set_cons_zero, List.set_cons_succ]
      refine till_one (i := 6) (by kernel_rfl) rfl (fun K' hK => ?_)
      go_simp
      have bn := (Below.refl w2.heap.size w2).alloc (Nat.le_refl _) (.cells #[.int .i64 0, .int .i64 0, .bool false] 98)
      have BZ := Lib.hid (Mem.Blk.new w2 98 #[.int .i64 0, .int .i64 0, .bool false])
      have HZ : Hid (w.heap.size ≤ w2.heap.size) := HB2.out.size
      have HB3 := Lib.hid (HB2.out.trans (bn.mono HB2.out.size))
      refine hK _ _ ⟨cell_up x0 bn, cell_up x1 bn, cell_up x2 bn, cell_up x3 bn, cell_up q0 bn, cell_up q1 bn⟩ ?_
      clear hK K' bn HB2 x0 x1 x2 x3 q0 q1
      generalize w2.alloc (.cells #[.int .i64 0, .int .i64 0, .bool false] 98) = w3 at *
      generalize w2.heap.size = z at *
      try simp only [Act.put, List.getElem_toArray, List.getElem_cons_zero, List.getElem_cons_succ, List.setIfInBounds_toArray, List.set_cons_zero, List.set_cons_succ]
      obtain ⟨t0, t1, t2, t3, t4, t5⟩ := blk3 BZ.out
      refine till_last (by kernel_rfl) rfl (by kernel_rfl) (fun K' hK => ?_)
      go_simp
      have HB9 := Lib.hid (((HB3.out.setCell (p := ⟨z, 0, none⟩) HZ.out (.int .i64 v.K)).setCell (p := ⟨z, 1, none⟩) HZ.out (.int .i64 v.N)).setCell (p := ⟨z, 2, none⟩) HZ.out (.bool v.B))
      have BZ9 := Lib.hid (((BZ.out.set_ 0 (.int .i64 v.K)).set_ 1 (.int .i64 v.N)).set_ 2 (.bool v.B))
      refine hK _ _ ?_
      clear hK K'
      try simp only [Act.put, List.getElem_toArray, List.getElem_cons_zero, List.getElem_cons_succ, List.setIfInBounds_toArray, List.set_cons_zero, List.set_cons_succ]
      refine wpAny_done (by kernel_rfl) ?_ _
      go_wp2_with fail
      go_meet
      case rel => exact ⟨z, rfl, HB9.out, HZ.out, BZ9.out⟩
    · go_simp
      have bn : Below w1.heap.size w1 (w1.alloc (.cells #[.int .i64 0, .int .i64 0, .bool false] 98)).drew := ((Below.refl w1.heap.size w1).alloc (Nat.le_refl _) (.cells #[.int .i64 0, .int .i64 0, .bool false] 98)).drew
      have BZ1 := Lib.hid (Mem.Blk.new w1 98 #[.int .i64 0, .int .i64 0, .bool false]).drew
      have HZ : Hid (w.heap.size ≤ w1.heap.size) := HB0.out.size
      have HB2 := Lib.hid (HB0.out.trans (bn.mono HB0.out.size))
      replace x0 := cell_up x0 bn
      replace x1 := cell_up x1 bn
      replace x2 := cell_up x2 bn
      replace x3 := cell_up x3 bn
      replace q0 := cell_up q0 bn
      replace q1 := cell_up q1 bn
      refine hK _ _ ⟨x0, x1, x2, x3, q0, q1⟩ ?_
      clear hK K' bn HB0 BX
      generalize (w1.alloc (.cells #[.int .i64 0, .int .i64 0, .bool false] 98)).drew = w2 at *
      generalize w1.heap.size = z at *
      try simp only [Act.put, List.getElem_toArray, List.getElem_cons_zero, List.getElem_cons_succ, List.setIfInBounds_toArray, List.set_cons_zero, List.set_cons_succ]
      refine till_one (i := 5) (by kernel_rfl) rfl (fun K' hK => ?_)
      go_simp
      (with_reducible refine (HQ.out _ HB2.out).mono ?_)
      rintro y w3 ⟨hy, b1⟩
      unfold RetV at hy
      subst hy
      have BZ := Lib.hid (BZ1.out.below b1)
      have HB3 := Lib.hid (HB2.out.trans (b1.mono HB2.out.size))
      refine hK _ _ ⟨cell_up x0 b1, cell_up x1 b1, cell_up x2 b1, cell_up x3 b1, cell_up q0 b1, cell_up q1 b1⟩ ?_
      clear hK K' b1 HB2 BZ1 x0 x1 x2 x3 q0 q1
      try simp only [Act.put, List.getElem_toArray, List.getElem_cons_zero, List.getElem_cons_succ, List.setIfInBounds_toArray, List.set_cons_zero, List.set_cons_succ]
      obtain ⟨t0, t1, t2, t3, t4, t5⟩ := blk3 BZ.out
      refine till_last (by kernel_rfl) rfl (by kernel_rfl) (fun K' hK => ?_)
      go_simp
      have HB9 := Lib.hid (((HB3.out.setCell (p := ⟨z, 0, none⟩) HZ.out (.int .i64 v.K)).setCell (p := ⟨z, 1, none⟩) HZ.out (.int .i64 v.N)).setCell (p := ⟨z, 2, none⟩) HZ.out (.bool v.B))
      have BZ9 := Lib.hid (((BZ.out.set_ 0 (.int .i64 v.K)).set_ 1 (.int .i64 v.N)).set_ 2 (.bool v.B))
      refine hK _ _ ?_
      clear hK K'
      try simp only [Act.put, List.getElem_toArray, List.getElem_cons_zero, List.getElem_cons_succ, List.setIfInBounds_toArray, List.set_cons_zero, List.set_cons_succ]
      refine wpAny_done (by kernel_rfl) ?_ _
      go_wp2_with fail
      go_meet
      case rel => exact ⟨z, rfl, HB9.out, HZ.out, BZ9.out⟩
  obtain ⟨z, rfl, HB, HZ, BZ⟩ := hcut
  obtain ⟨w2, rfl⟩ : ∃ W : World, W = wc := ⟨_, rfl⟩
  have HJ2 := Lib.hid (HJ.out.below HB.out)
  have q4 : w2.cell? ⟨rb, 4, none⟩ = some (.bool s.bad) := HJ2.out.run.cells.cell 4
  have f4 : w2.frozen? ⟨rb, 4, none⟩ = false := HJ2.out.run.cells.frozen 4
  have HNE : Hid (z ≠ rb) := by have := HRB.out; have := HZ.out; show z ≠ rb; omega
  obtain ⟨bd, hbd⟩ : ∃ b, b = s.bad := ⟨_, rfl⟩
  rw [← hbd] at q4
  have HBD := Lib.hid hbd
  clear hbd x0 x1 x2 x3 q0 q1 HQ BX HB0 HJ
  cases v with
  | unk =>
    cases bd
    · have t0 : w2.cell? ⟨z, 0, none⟩ = some (.int .i64 0) := BZ.out.cell 0
      have t2 : w2.cell? ⟨z, 2, none⟩ = some (.bool false) := BZ.out.cell 2
      have BZ3 := Lib.hid ((Fr.setCell w2 (X := [rb]) (p := ⟨rb, 4, none⟩) (by simp) (.bool false)).blk BZ.out (by simpa using HNE.out))
      have HS : Hid (RunTo base rb day fx fa fl fc w (w2.setCell ⟨rb, 4, none⟩ (.bool false)) vP vF (orB s .unk) vP vF) := by
        have e : orB s .unk = { s with bad := false } := by unfold orB; rw [← HBD.out]; rfl
        rw [e]
        exact HJ2.out.trans (HJ2.out.run.setBad false)
      have HFR := Lib.hid ((Fr.of_below HB.out [rb]).trans (Fr.setCell w2 (X := [rb]) (p := ⟨rb, 4, none⟩) (by simp) (.bool false)))
      go_upto_region 3 with (fail)
      generalize w2.setCell ⟨rb, 4, none⟩ (.bool false) = w3 at *
      clear t0 t2 q4 f4
      have t0 : w3.cell? ⟨z, 0, none⟩ = some (.int .i64 0) := BZ3.out.cell 0
      have t2 : w3.cell? ⟨z, 2, none⟩ = some (.bool false) := BZ3.out.cell 2
      go_wp2_with fail
      go_ret
      exact ⟨rfl, HS.out, HFR.out⟩
    · have t0 : w2.cell? ⟨z, 0, none⟩ = some (.int .i64 0) := BZ.out.cell 0
      have t2 : w2.cell? ⟨z, 2, none⟩ = some (.bool false) := BZ.out.cell 2
      have BZ3 := Lib.hid ((Fr.setCell w2 (X := [rb]) (p := ⟨rb, 4, none⟩) (by simp) (.bool true)).blk BZ.out (by simpa using HNE.out))
      have HS : Hid (RunTo base rb day fx fa fl fc w (w2.setCell ⟨rb, 4, none⟩ (.bool true)) vP vF (orB s .unk) vP vF) := by
        have e : orB s .unk = { s with bad := true } := by unfold orB; rw [← HBD.out]; rfl
        rw [e]
        exact HJ2.out.trans (HJ2.out.run.setBad true)
      have HFR := Lib.hid ((Fr.of_below HB.out [rb]).trans (Fr.setCell w2 (X := [rb]) (p := ⟨rb, 4, none⟩) (by simp) (.bool true)))
      go_upto_region 3 with (fail)
      generalize w2.setCell ⟨rb, 4, none⟩ (.bool true) = w3 at *
      clear t0 t2 q4 f4
      have t0 : w3.cell? ⟨z, 0, none⟩ = some (.int .i64 0) := BZ3.out.cell 0
      have t2 : w3.cell? ⟨z, 2, none⟩ = some (.bool false) := BZ3.out.cell 2
      go_wp2_with fail
      go_ret
      exact ⟨rfl, HS.out, HFR.out⟩
  | num n =>
    cases bd
    · have t0 : w2.cell? ⟨z, 0, none⟩ = some (.int .i64 1) := BZ.out.cell 0
      have t2 : w2.cell? ⟨z, 2, none⟩ = some (.bool false) := BZ.out.cell 2
      have BZ3 := Lib.hid ((Fr.setCell w2 (X := [rb]) (p := ⟨rb, 4, none⟩) (by simp) (.bool false)).blk BZ.out (by simpa using HNE.out))
      have HS : Hid (RunTo base rb day fx fa fl fc w (w2.setCell ⟨rb, 4, none⟩ (.bool false)) vP vF (orB s (.num n)) vP vF) := by
        have e : orB s (.num n) = { s with bad := false } := by unfold orB; rw [← HBD.out]; rfl
        rw [e]
        exact HJ2.out.trans (HJ2.out.run.setBad false)
      have HFR := Lib.hid ((Fr.of_below HB.out [rb]).trans (Fr.setCell w2 (X := [rb]) (p := ⟨rb, 4, none⟩) (by simp) (.bool false)))
      go_upto_region 3 with (fail)
      generalize w2.setCell ⟨rb, 4, none⟩ (.bool false) = w3 at *
      clear t0 t2 q4 f4
      have t0 : w3.cell? ⟨z, 0, none⟩ = some (.int .i64 1) := BZ3.out.cell 0
      have t2 : w3.cell? ⟨z, 2, none⟩ = some (.bool false) := BZ3.out.cell 2
      go_wp2_with fail
      go_ret
      exact ⟨rfl, HS.out, HFR.out⟩
    · have t0 : w2.cell? ⟨z, 0, none⟩ = some (.int .i64 1) := BZ.out.cell 0
      have t2 : w2.cell? ⟨z, 2, none⟩ = some (.bool false) := BZ.out.cell 2
      have BZ3 := Lib.hid ((Fr.setCell w2 (X := [rb]) (p := ⟨rb, 4, none⟩) (by simp) (.bool true)).blk BZ.out (by simpa using HNE.out))
      have HS : Hid (RunTo base rb day fx fa fl fc w (w2.setCell ⟨rb, 4, none⟩ (.bool true)) vP vF (orB s (.num n)) vP vF) := by
        have e : orB s (.num n) = { s with bad := true } := by unfold orB; rw [← HBD.out]; rfl
        rw [e]
        exact HJ2.out.trans (HJ2.out.run.setBad true)
      have HFR := Lib.hid ((Fr.of_below HB.out [rb]).trans (Fr.setCell w2 (X := [rb]) (p := ⟨rb, 4, none⟩) (by simp) (.bool true)))
      go_upto_region 3 with (fail)
      generalize w2.setCell ⟨rb, 4, none⟩ (.bool true) = w3 at *
      clear t0 t2 q4 f4
      have t0 : w3.cell? ⟨z, 0, none⟩ = some (.int .i64 1) := BZ3.out.cell 0
      have t2 : w3.cell? ⟨z, 2, none⟩ = some (.bool false) := BZ3.out.cell 2
      go_wp2_with fail
      go_ret
      exact ⟨rfl, HS.out, HFR.out⟩
  | tru b =>
    cases bd
    · have t0 : w2.cell? ⟨z, 0, none⟩ = some (.int .i64 2) := BZ.out.cell 0
      have t2 : w2.cell? ⟨z, 2, none⟩ = some (.bool b) := BZ.out.cell 2
      have BZ3 := Lib.hid ((Fr.setCell w2 (X := [rb]) (p := ⟨rb, 4, none⟩) (by simp) (.bool false)).blk BZ.out (by simpa using HNE.out))
      have HS : Hid (RunTo base rb day fx fa fl fc w (w2.setCell ⟨rb, 4, none⟩ (.bool false)) vP vF (orB s (.tru b)) vP vF) := by
        have e : orB s (.tru b) = { s with bad := false } := by unfold orB; rw [← HBD.out]; rfl
        rw [e]
        exact HJ2.out.trans (HJ2.out.run.setBad false)
      have HFR := Lib.hid ((Fr.of_below HB.out [rb]).trans (Fr.setCell w2 (X := [rb]) (p := ⟨rb, 4, none⟩) (by simp) (.bool false)))
      go_upto_region 3 with (fail)
      generalize w2.setCell ⟨rb, 4, none⟩ (.bool false) = w3 at *
      clear t0 t2 q4 f4
      have t0 : w3.cell? ⟨z, 0, none⟩ = some (.int .i64 2) := BZ3.out.cell 0
      have t2 : w3.cell? ⟨z, 2, none⟩ = some (.bool b) := BZ3.out.cell 2
      go_wp2_with fail
      go_ret
      exact ⟨rfl, HS.out, HFR.out⟩
    · have t0 : w2.cell? ⟨z, 0, none⟩ = some (.int .i64 2) := BZ.out.cell 0
      have t2 : w2.cell? ⟨z, 2, none⟩ = some (.bool b) := BZ.out.cell 2
      have BZ3 := Lib.hid ((Fr.setCell w2 (X := [rb]) (p := ⟨rb, 4, none⟩) (by simp) (.bool true)).blk BZ.out (by simpa using HNE.out))
      have HS : Hid (RunTo base rb day fx fa fl fc w (w2.setCell ⟨rb, 4, none⟩ (.bool true)) vP vF (orB s (.tru b)) vP vF) := by
        have e : orB s (.tru b) = { s with bad := true } := by unfold orB; rw [← HBD.out]; rfl
        rw [e]
        exact HJ2.out.trans (HJ2.out.run.setBad true)
      have HFR := Lib.hid ((Fr.of_below HB.out [rb]).trans (Fr.setCell w2 (X := [rb]) (p := ⟨rb, 4, none⟩) (by simp) (.bool true)))
      go_upto_region 3 with (fail)
      generalize w2.setCell ⟨rb, 4, none⟩ (.bool true) = w3 at *
      clear t0 t2 q4 f4
      have t0 : w3.cell? ⟨z, 0, none⟩ = some (.int .i64 2) := BZ3.out.cell 0
      have t2 : w3.cell? ⟨z, 2, none⟩ = some (.bool b) := BZ3.out.cell 2
      go_wp2_with fail
      go_ret
      exact ⟨rfl, HS.out, HFR.out⟩
  | brk =>
    cases bd
    · have t0 : w2.cell? ⟨z, 0, none⟩ = some (.int .i64 3) := BZ.out.cell 0
      have t2 : w2.cell? ⟨z, 2, none⟩ = some (.bool false) := BZ.out.cell 2
      have BZ3 := Lib.hid ((Fr.setCell w2 (X := [rb]) (p := ⟨rb, 4, none⟩) (by simp) (.bool true)).blk BZ.out (by simpa using HNE.out))
      have HS : Hid (RunTo base rb day fx fa fl fc w (w2.setCell ⟨rb, 4, none⟩ (.bool true)) vP vF (orB s .brk) vP vF) := by
        have e : orB s .brk = { s with bad := true } := by unfold orB; rw [← HBD.out]; rfl
        rw [e]
        exact HJ2.out.trans (HJ2.out.run.setBad true)
      have HFR := Lib.hid ((Fr.of_below HB.out [rb]).trans (Fr.setCell w2 (X := [rb]) (p := ⟨rb, 4, none⟩) (by simp) (.bool true)))
      go_upto_region 3 with (fail)
      generalize w2.setCell ⟨rb, 4, none⟩ (.bool true) = w3 at *
      clear t0 t2 q4 f4
      have t0 : w3.cell? ⟨z, 0, none⟩ = some (.int .i64 3) := BZ3.out.cell 0
      have t2 : w3.cell? ⟨z, 2, none⟩ = some (.bool false) := BZ3.out.cell 2
      go_wp2_with fail
      go_ret
      exact ⟨rfl, HS.out, HFR.out⟩
    · have t0 : w2.cell? ⟨z, 0, none⟩ = some (.int .i64 3) := BZ.out.cell 0
      have t2 : w2.cell? ⟨z, 2, none⟩ = some (.bool false) := BZ.out.cell 2
      have BZ3 := Lib.hid ((Fr.setCell w2 (X := [rb]) (p := ⟨rb, 4, none⟩) (by simp) (.bool true)).blk BZ.out (by simpa using HNE.out))
      have HS : Hid (RunTo base rb day fx fa fl fc w (w2.setCell ⟨rb, 4, none⟩ (.bool true)) vP vF (orB s .brk) vP vF) := by
        have e : orB s .brk = { s with bad := true } := by unfold orB; rw [← HBD.out]; rfl
        rw [e]
        exact HJ2.out.trans (HJ2.out.run.setBad true)
      have HFR := Lib.hid ((Fr.of_below HB.out [rb]).trans (Fr.setCell w2 (X := [rb]) (p := ⟨rb, 4, none⟩) (by simp) (.bool true)))
      go_upto_region 3 with (fail)
      generalize w2.setCell ⟨rb, 4, none⟩ (.bool true) = w3 at *
      clear t0 t2 q4 f4
      have t0 : w3.cell? ⟨z, 0, none⟩ = some (.int .i64 3) := BZ3.out.cell 0
      have t2 : w3.cell? ⟨z, 2, none⟩ = some (.bool false) := BZ3.out.cell 2
      go_wp2_with fail
      go_ret
      exact ⟨rfl, HS.out, HFR.out⟩
end Go.Proofs.Ytmiinmndbkdjbaa

/- What a run tells; whether one of some truths is true. -/
namespace Go.Proofs.Ytmiinmndbkdjbaa
set_option linter.unusedVariables false
set_option linter.unusedSimpArgs false
open Go.RowKit
set_option maxRecDepth 100000 in
set_option maxHeartbeats 4000000 in
theorem told_bad (base rb : Nat) (day : Int) (fx : List Fx) (fa : Option Addr) (fl fc : Nat) (s : RS) (vP vF : Value) (w : World) (hJ : RunJ base rb day fx fa fl fc w s vP vF) (hb : s.bad = true) :
    Calls Try.prog 23 #[.pointer (some ⟨rb, 0, none⟩)] w fun x w' => x = .returned (.tuple #[.slice none 0 0, .slice none 0 0, .int .i64 2]) ∧ Below w.heap.size w w' := by
  have q4 : w.cell? ⟨rb, 4, none⟩ = some (.bool s.bad) := hJ.cells.cell 4
  rw [hb] at q4
  clear hJ hb
  go_enter Try.func23, Try.ntmps23
  go_wp2_with fail
  go_ret3
  exact ⟨rfl, Below.refl _ _⟩
set_option maxRecDepth 100000 in
set_option maxHeartbeats 4000000 in
theorem told_ok (base rb : Nat) (day : Int) (fx : List Fx) (fa : Option Addr) (fl fc : Nat) (s : RS) (pa : Option Addr) (pn pc : Nat) (qa : Option Addr) (qn qc : Nat) (w : World) (hJ : RunJ base rb day fx fa fl fc w s (.slice pa pn pc) (.slice qa qn qc)) (hb : s.bad = false) :
    Calls Try.prog 23 #[.pointer (some ⟨rb, 0, none⟩)] w fun x w' => x = .returned (.tuple #[.slice pa pn pc, .slice qa qn qc, .int .i64 0]) ∧ Below w.heap.size w w' := by
  have q4 : w.cell? ⟨rb, 4, none⟩ = some (.bool s.bad) := hJ.cells.cell 4
  have q2 : w.cell? ⟨rb, 2, none⟩ = some (.slice pa pn pc) := hJ.cells.cell 2
  have q3 : w.cell? ⟨rb, 3, none⟩ = some (.slice qa qn qc) := hJ.cells.cell 3
  rw [hb] at q4
  clear hJ hb
  go_enter Try.func23, Try.ntmps23
  go_upto_region 3 with (fail)
  go_quiet (fail)
  have bq : Below w.heap.size w (w.drewN nq) := (below_drewN (Below.refl w.heap.size w) nq)
  have HB := Lib.hid bq
  clear bq
  generalize w.drewN nq = w2 at *
  go_wp2_with fail
  go_ret3
  exact ⟨rfl, HB.out⟩
/-- A run behind some truths. -/
noncomputable def endS (day : Int) (fx : List Fx) (l : List Ex) (s : RS) : RS := l.foldl (fun s e => orB s (evalX day fx e)) s
noncomputable def endB (day : Int) (fx : List Fx) (l : List Ex) : Bool := l.any fun e => (evalX day fx e).B
set_option maxRecDepth 100000 in
set_option maxHeartbeats 4000000 in
theorem ended_any (base rb : Nat) (day : Int) (fx : List Fx) (fa : Option Addr) (fl fc : Nat) (s : RS) (vP vF : Value) (l : List Ex) (a : Option Addr) (len cap : Nat) (w : World) (hd : I64 day) (hJ : RunJ base rb day fx fa fl fc w s vP vF) (hR : SlR exK w (X3 rb vP vF) l a len cap) (hk : ∀ e ∈ l, e.rk ≤ 1000) (hlen : len ≤ 1000) :
    Calls Try.prog 28 #[.pointer (some ⟨rb, 0, none⟩), .slice a len cap] w fun x w' => x = .returned (.bool (endB day fx l)) ∧ RunTo base rb day fx fa fl fc w w' vP vF (endS day fx l s) vP vF := by
  have HJ := Lib.hid hJ.to
  have HR := Lib.hid hR
  have HL := Lib.hid hR.facts.1
  have HK := Lib.hid hk
  have HN := Lib.hid hlen
  clear hJ hR hk hlen
  go_enter Try.func28, Try.ntmps28
  go_wp2_with fail
  go_loopw [5, 10] (fun v i wr => ∃ (k : Nat), v = .bool (endB day fx (l.take k)) ∧ i = .int .i64 (k : Nat) ∧ k ≤ len ∧ Hid (RunTo base rb day fx fa fl fc w wr vP vF (endS day fx (l.take k) s) vP vF)) (fun _ i _ => len - (intOf i).toNat)
  case atStart => exact ⟨0, rfl, rfl, Nat.zero_le _, HJ.out⟩
  case round =>
    clear HJ
    rename World => w3
    obtain ⟨k, rfl, rfl, hk, HT⟩ := hrel
    by_cases hlt : k < len
    · have hlt' : (k : Int) < (len : Int) := by omega
      have k0 : (0 : Int) ≤ (k : Int) := by omega
      have k1 : (k : Int) ≤ 1000 := by have := HN.out; omega
      obtain ⟨b, o, x, cs, ha, -, -, hx, hRx, -, hc⟩ := (HT.out.slr HR.out).at k hlt
      have hRx' : RepE w3 (X3 rb vP vF) x cs := hRx
      have hkx := HK.out x (List.mem_of_getElem? hx)
      have htk : l.take (k + 1) = l.take k ++ [x] := by
        obtain ⟨hk', e⟩ := List.getElem?_eq_some_iff.1 hx
        rw [← List.take_append_getElem hk', e]
      have HES : Hid (endS day fx (l.take (k + 1)) s = orB (endS day fx (l.take k) s) (evalX day fx x)) := by show _ = _; rw [htk]; unfold endS; rw [List.foldl_append]; rfl
      have HEB : Hid (endB day fx (l.take (k + 1)) = (endB day fx (l.take k) || (evalX day fx x).B)) := by show _ = _; rw [htk]; unfold endB; rw [List.any_append]; simp
      obtain ⟨op, no, nm, args, aa, al, ac, e1, e2, -, -, -, -⟩ := hRx'.inv
      subst e2
      have bn := below_nT w3 (.cells #[.int .i64 op, .int .i64 no, .string nm, .slice aa al ac] 53)
      have BX := Lib.hid (Mem.Blk.new w3 53 #[.int .i64 op, .int .i64 no, .string nm, .slice aa al ac])
      have HT4 := Lib.hid (HT.out.trans (HT.out.run.below bn))
      have HTR := Lib.hid (runTruth_any base rb day fx fa fl fc (endS day fx (l.take k) s) vP vF x [.int .i64 op, .int .i64 no, .string nm, .slice aa al ac] _ hd (HT.out.run.below bn).run (hRx'.kept (Kept.of_below bn _)) hkx)
      obtain ⟨EB, hEB⟩ : ∃ E, E = endB day fx (l.take k) := ⟨_, rfl⟩
      obtain ⟨B, hB⟩ : ∃ B, B = (evalX day fx x).B := ⟨_, rfl⟩
      rw [← hEB, ← hB] at HEB
      rw [← hB] at HTR
      rw [← hEB]
      have u0 : w3.cell? ⟨b, o + k * 4, none⟩ = some (.int .i64 op) := hc 0 _ rfl
      have u1 : w3.cell? ⟨b, o + k * 4 + 1, none⟩ = some (.int .i64 no) := hc 1 _ rfl
      have u2 : w3.cell? ⟨b, o + k * 4 + 2, none⟩ = some (.string nm) := hc 2 _ rfl
      have u3 : w3.cell? ⟨b, o + k * 4 + 3, none⟩ = some (.slice aa al ac) := hc 3 _ rfl
      have HA := Lib.hid ha
      subst ha
      have HLT := Lib.hid hlt
      clear hRx hRx' hkx htk hx hc e1 hEB hB hlt bn HT
      go_upto_region 5 with (fail)
      generalize w3.alloc (.cells #[.int .i64 op, .int .i64 no, .string nm, .slice aa al ac] 53) = w4 at *
      generalize w3.heap.size = z at *
      clear u0 u1 u2 u3
      obtain ⟨c0, c1, c2, c3, -, -, -, -⟩ := blk4 BX.out
      go_wp2_with fail
      go_at_call 42
      (with_reducible refine HTR.out.mono ?_)
      rintro y w5 ⟨rfl, ht, -⟩
      have HT5 : Hid (RunTo base rb day fx fa fl fc w w5 vP vF (endS day fx (l.take (k + 1)) s) vP vF) := by
        have := HT4.out.trans ht
        rw [← HES.out] at this
        exact this
      clear ht HTR HT4 c0 c1 c2 c3 HES
      cases B
      · rw [Bool.or_false] at HEB
        rw [← HEB.out]
        go_wp2_with fail
        go_roundw
        case rel => exact ⟨k + 1, rfl, by go_num, by have := HLT.out; omega, HT5.out⟩
        case measure => simp [intOf]; have := HLT.out; omega
      · rw [Bool.or_true] at HEB
        go_wp2_with fail
        go_roundw
        case rel => exact ⟨k + 1, by rw [HEB.out], by go_num, by have := HLT.out; omega, HT5.out⟩
        case measure => simp [intOf]; have := HLT.out; omega
    · have hlt' : ¬ (k : Int) < (len : Int) := by omega
      obtain rfl : k = len := by omega
      rw [List.take_of_length_le (by rw [HL.out]; omega)] at HT ⊢
      clear hlt
      go_wp2_with fail
      go_ret
      exact ⟨rfl, HT.out⟩
end Go.Proofs.Ytmiinmndbkdjbaa

/- How much comes of a term: plain. -/
namespace Go.Proofs.Ytmiinmndbkdjbaa
set_option linter.unusedVariables false
set_option linter.unusedSimpArgs false
open Go.RowKit
theorem nd_kids {t : Te} (hb : bT t = true) : (t.op = 4 → (t0 t).nd + (t1 t).nd + 1 ≤ t.nd) ∧ (t.op = 3 ∨ t.op = 6 ∨ t.op = 7 ∨ t.op = 8 → (t0 t).nd + 1 ≤ t.nd) ∧ 1 ≤ t.nd := by
  obtain ⟨k1, k2, -⟩ := te_kids hb
  obtain ⟨op, nm, x, l⟩ := t
  have e : (Te.mk op nm x l).nd = 1 + Ex.nd.go x + Te.nd.go l := rfl
  refine ⟨fun h => ?_, fun h => ?_, by omega⟩
  · have k := k2 (.inl h)
    change l = _ at k
    have g : Te.nd.go l = (t0 (Te.mk op nm x l)).nd + ((t1 (Te.mk op nm x l)).nd + 0) := by
      conv => lhs; rw [k]
      rfl
    omega
  · have k := k1 (by rcases h with h | h | h | h <;> simp [h])
    change l = _ at k
    have g : Te.nd.go l = (t0 (Te.mk op nm x l)).nd + 0 := by
      conv => lhs; rw [k]
      rfl
    omega
/-- No more comes than there are nodes. -/
def LenB (n : Nat) (s s' : RS) : Prop := s'.ps.length ≤ s.ps.length + n ∧ s'.fs.length ≤ s.fs.length + n
theorem LenB.refl (n : Nat) (s : RS) : LenB n s s := ⟨Nat.le_add_right _ _, Nat.le_add_right _ _⟩
theorem LenB.trans {n m k : Nat} {a b c : RS} (h : LenB n a b) (g : LenB m b c) (e : n + m ≤ k) : LenB k a c := by
  obtain ⟨h1, h2⟩ := h
  obtain ⟨g1, g2⟩ := g
  exact ⟨by omega, by omega⟩
theorem LenB.up {n k : Nat} {a b : RS} (h : LenB n a b) (e : n ≤ k) : LenB k a b := ⟨by have := h.1; omega, by have := h.2; omega⟩
theorem LenB.part {n : Nat} (s : RS) (p : Prt) (h : 1 ≤ n) : LenB n s { s with ps := s.ps ++ [p] } := ⟨by show (s.ps ++ [p]).length ≤ _; rw [List.length_append]; simp; omega, Nat.le_add_right _ _⟩
theorem LenB.flow {n : Nat} (s : RS) (p : Flw) (h : 1 ≤ n) : LenB n s { s with fs := s.fs ++ [p] } := ⟨Nat.le_add_right _ _, by show (s.fs ++ [p]).length ≤ _; rw [List.length_append]; simp; omega⟩
theorem acq_len (day : Int) (fx : List Fx) : ∀ (r : Nat) (t : Te), t.rk ≤ r → bT t = true → ∀ (f : Int) (tn : Bool) (un : List Ex) (s : RS), LenB t.nd s (acq day fx t f tn un s) := by
  intro r
  induction r with
  | zero =>
    intro t hr hb
    obtain ⟨op, nm, x, l⟩ := t
    have h2 : (Te.mk op nm x l).rk = 1 + max (Ex.rk.go x) (Te.rk.go l) := rfl
    omega
  | succ r ih =>
    intro t hr hb f tn un s
    obtain ⟨k1, k2, -⟩ := te_kids hb
    obtain ⟨n1, n2, n3⟩ := nd_kids hb
    have i0 : (t.op = 3 ∨ t.op = 6 ∨ t.op = 7 ∨ t.op = 8 ∨ t.op = 4) → ∀ (f : Int) (tn : Bool) (un : List Ex) (s : RS), LenB (t0 t).nd s (acq day fx (t0 t) f tn un s) := fun h => by
      have hm : t0 t ∈ t.terms := by
        by_cases h' : t.op = 4 ∨ t.op = 5
        · rw [k2 h']; exact List.mem_cons_self ..
        · rw [k1 (by omega)]; exact List.mem_cons_self ..
      exact ih _ (by have := rk_kid hm; omega) (bT_kid hb hm)
    have i1 : t.op = 4 → ∀ (f : Int) (tn : Bool) (un : List Ex) (s : RS), LenB (t1 t).nd s (acq day fx (t1 t) f tn un s) := fun h => by
      have hm : t1 t ∈ t.terms := by rw [k2 (.inl h)]; exact List.mem_cons_of_mem _ (List.mem_cons_self ..)
      exact ih _ (by have := rk_kid hm; omega) (bT_kid hb hm)
    rw [acq_eq day fx hb, acqB]
    split
    · exact LenB.refl _ _
    split
    · split
      · exact LenB.refl _ _
      · exact LenB.flow _ _ n3
    split
    · rename_i h3
      exact (i0 (by omega) _ _ _ { s with bad := !(fitB (fitI (-f))) }).up (by have := n2 (by omega); omega)
    split
    · rename_i h4
      exact (i0 (by omega) _ _ _ s).trans (i1 h4 _ _ _ _) (by have := n1 h4; omega)
    split
    · rename_i h8
      split
      · exact LenB.refl t.nd s
      split
      · exact LenB.refl _ _
      · exact (i0 (by omega) _ _ _ s).up (by have := n2 (by omega); omega)
    split
    · rename_i h6
      unfold waitW
      split
      · exact LenB.refl t.nd s
      split
      · exact (i0 (by omega) _ _ _ { s with bad := !(fitB (fitI (f * (evalX day fx (x0 t)).N))) }).up (by have := n2 (by omega); omega)
      split
      · exact (i0 (by omega) _ _ _ s).up (by have := n2 (by omega); omega)
      · exact LenB.part _ _ n3
    split
    · exact LenB.part _ _ n3
    · exact LenB.refl _ _
end Go.Proofs.Ytmiinmndbkdjbaa
