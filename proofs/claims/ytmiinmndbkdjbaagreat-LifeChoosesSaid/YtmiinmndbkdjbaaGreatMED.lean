/- A part of the proof: EvalQ, EvalR, Fx, Cells, Num, NumB, NumC, Right, one behind another. -/
import Derived.Test.YtmiinmndbkdjbaaGreatMEA
import Derived.Test.YtmiinmndbkdjbaaGreatMEB
import Derived.Test.YtmiinmndbkdjbaaGreatMEC
import Derived.WalkKit
import Derived.Shelf.Bits.Mul64
import Derived.BigRegion
import Derived.RegionTactic
import Derived.Deep.DeepCutAuto
import Derived.Lib.Hide
set_option maxRecDepth 100000
set_option maxHeartbeats 16000000
set_option linter.unusedVariables false
set_option linter.unusedSimpArgs false
namespace Go.Proofs.YtmiinmndbkdjbaaGreat
open Go.RowKit
section
def Ty (k : Int) (v : Vl) : Prop := v=.unk\/v=.brk\/(k=1/\∃ n,v=.num n)\/(k=2/\∃ b,v=.tru b)
theorem ty_numV (o : Option Int) : Ty 1 (numV o) := by cases o with | none => exact .inr (.inl rfl) | some n => exact .inr (.inr (.inl ⟨rfl,n,rfl⟩))
theorem kOf_need {op : Int} {ks : List Int} (h21 : op ≠ 21) (h : kOf op ks ≠ 0) : (∀ k ∈ ks,k=needK op)/\kOf op ks=isK op := by
 unfold kOf at h ⊢;rw [if_neg h21] at h ⊢;by_cases ha : ks.all (fun k => decide (k=needK op))=true
 . rw [if_pos ha];exact ⟨fun k hk => by simpa using List.all_eq_true.1 ha k hk,rfl⟩
 . rw [if_neg ha] at h; exact absurd rfl h
theorem two_of {α : Type} {l : List α} (h : l.length=2) : ∃ a b,l=[a,b] := by
 match l,h with
 | [a,b],_ => exact ⟨a,b,rfl⟩
theorem one_of {α : Type} {l : List α} (h : l.length=1) : ∃ a,l=[a] := by
 match l,h with
 | [a],_ => exact ⟨a,rfl⟩
theorem three_of {α : Type} {l : List α} (h : l.length=3) : ∃ a b c,l=[a,b,c] := by
 match l,h with
 | [a,b,c],_ => exact ⟨a,b,c,rfl⟩
inductive Shape : Int->List Int->List Vl->Int->Prop
 | two1 {op : Int} {a b : Vl} (h : 5<=op/\op<=10) (ha : Ty 1 a) (hb : Ty 1 b) : Shape op [1,1] [a,b] 1
 | cmp {op : Int} {a b : Vl} (h : 11<=op/\op<=16) (ha : Ty 1 a) (hb : Ty 1 b) : Shape op [1,1] [a,b] 2
 | both {op : Int} {a b : Vl} (h : op=17\/op=18) (ha : Ty 2 a) (hb : Ty 2 b) : Shape op [2,2] [a,b] 2
 | not {a : Vl} (ha : Ty 2 a) : Shape 19 [2] [a] 2
 | neg {a : Vl} (ha : Ty 1 a) : Shape 20 [1] [a] 1
 | cond {a b c : Vl} {k : Int} (ha : Ty 2 a) (hb : Ty k b) (hc : Ty k c) : Shape 21 [2,k,k] [a,b,c] k
theorem shape_of {op : Int} {ks : List Int} {vs : List Vl} (h4 : 4 < op) (har : ar op=(ks.length : Nat)) (hlen : vs.length=ks.length) (h : kOf op ks ≠ 0) (hty : ∀ (i : Nat) (k : Int) (v : Vl),ks[i]?=some k->vs[i]?=some v->Ty k v) : Shape op ks vs (kOf op ks) := by
 obtain ⟨-,h21'⟩ := ar_op (by omega : 0<=ar op);by_cases h21 : op=21
 . subst h21;have hl : ks.length=3 := by rw [show ar 21=3 by decide] at har; omega
   obtain ⟨k0,k1,k2,rfl⟩ := three_of hl;obtain ⟨a,b,c,rfl⟩ := three_of (by rw [hlen]; rfl : vs.length=3);unfold kOf at h ⊢;simp only [if_pos] at h ⊢;by_cases hc : ([k0,k1,k2] : List Int).getD 0 0=2/\([k0,k1,k2] : List Int).getD 1 0=([k0,k1,k2] : List Int).getD 2 0
   . rw [if_pos hc];simp at hc;obtain ⟨rfl,rfl⟩ := hc;simp only [List.getD_cons_succ,List.getD_cons_zero];exact .cond (hty 0 _ _ rfl rfl) (hty 1 _ _ rfl rfl) (hty 2 _ _ rfl rfl)
   . rw [if_neg hc] at h; exact absurd rfl h
 . obtain ⟨hk,he⟩ := kOf_need h21 h;rw [he];unfold needK at hk;unfold isK;by_cases h10 : (5<=op/\op<=10)\/op=20
   . rw [if_pos h10] at hk ⊢;rcases h10 with h10 | rfl
     . obtain ⟨k0,k1,rfl⟩ := two_of (by rw [ar_two (by omega)] at har; omega : ks.length=2);obtain ⟨a,b,rfl⟩ := two_of (by rw [hlen]; rfl : vs.length=2);obtain rfl := hk k0 (by simp);obtain rfl := hk k1 (by simp);exact .two1 h10 (hty 0 _ _ rfl rfl) (hty 1 _ _ rfl rfl)
     . obtain ⟨k0,rfl⟩ := one_of (by rw [show ar 20=1 by decide] at har; omega : ks.length=1);obtain ⟨a,rfl⟩ := one_of (by rw [hlen]; rfl : vs.length=1);obtain rfl := hk k0 (by simp);exact .neg (hty 0 _ _ rfl rfl)
   . rw [if_neg h10] at hk ⊢;by_cases h16 : 11<=op/\op<=16
     . rw [if_pos h16] at hk ⊢;obtain ⟨k0,k1,rfl⟩ := two_of (by rw [ar_two (by omega)] at har; omega : ks.length=2);obtain ⟨a,b,rfl⟩ := two_of (by rw [hlen]; rfl : vs.length=2);obtain rfl := hk k0 (by simp);obtain rfl := hk k1 (by simp);exact .cmp h16 (hty 0 _ _ rfl rfl) (hty 1 _ _ rfl rfl)
     . rw [if_neg h16] at hk ⊢;have h17 : op=17\/op=18\/op=19 := by omega
       rw [if_pos h17] at hk ⊢;by_cases h19 : op=19
       . subst h19;obtain ⟨k0,rfl⟩ := one_of (by rw [show ar 19=1 by decide] at har; omega : ks.length=1);obtain ⟨a,rfl⟩ := one_of (by rw [hlen]; rfl : vs.length=1);obtain rfl := hk k0 (by simp);exact .not (hty 0 _ _ rfl rfl)
       . obtain ⟨k0,k1,rfl⟩ := two_of (by rw [ar_two (by omega)] at har; omega : ks.length=2);obtain ⟨a,b,rfl⟩ := two_of (by rw [hlen]; rfl : vs.length=2);obtain rfl := hk k0 (by simp);obtain rfl := hk k1 (by simp);exact .both (by omega) (hty 0 _ _ rfl rfl) (hty 1 _ _ rfl rfl)
theorem ty_two {op a b : Int} (h : 5<=op/\op<=10) : Ty 1 (twoV op a b) := by unfold twoV; rw [if_pos h]; exact ty_numV _
theorem ty_cmp {op a b : Int} (h : 11<=op/\op<=16) : Ty 2 (twoV op a b) := by unfold twoV; rw [if_neg (by omega)]; exact .inr (.inr (.inr ⟨rfl,_,rfl⟩))
theorem ty_both {s : Bool} {a b : Vl} (ha : Ty 2 a) (hb : Ty 2 b) : Ty 2 (bothV s a b) := by
 unfold bothV
 repeat' split
 . exact ha
 . exact hb
 . exact .inl rfl
theorem shape_ty {op k : Int} {ks : List Int} {vs : List Vl} (h : Shape op ks vs k) : Ty k (opV op vs) := by
 cases h with
 | two1 h ha hb =>
   unfold opV;rw [if_neg (by omega),if_neg (by omega),if_neg (by omega),if_neg (by omega)]
   repeat' split
   . exact .inr (.inl rfl)
   . exact .inl rfl
   . exact ty_two h
 | cmp h ha hb =>
   unfold opV;rw [if_neg (by omega),if_neg (by omega),if_neg (by omega),if_neg (by omega)]
   repeat' split
   . exact .inr (.inl rfl)
   . exact .inl rfl
   . exact ty_cmp h
 | both h ha hb => unfold opV; rw [if_pos h]; exact ty_both ha hb
 | not ha =>
   unfold opV;rw [if_neg (by omega),if_neg (by omega),if_pos rfl];simp only [List.getD_cons_zero]
   rename_i a
   cases a with
   | unk => exact .inl rfl
   | brk => exact .inr (.inl rfl)
   | num n => exact .inr (.inr (.inr ⟨rfl,_,rfl⟩))
   | tru t => exact .inr (.inr (.inr ⟨rfl,_,rfl⟩))
 | neg ha =>
   unfold opV;rw [if_neg (by omega),if_neg (by omega),if_neg (by omega),if_pos rfl];simp only [List.getD_cons_zero]
   rename_i a
   cases a with
   | unk => exact .inl rfl
   | brk => exact .inr (.inl rfl)
   | num n => exact ty_numV _
   | tru t => exact .inr (.inr (.inl ⟨rfl,_,rfl⟩))
 | cond ha hb hc =>
   unfold opV;rw [if_neg (by omega),if_pos rfl];simp only [List.getD_cons_zero,List.getD_cons_succ]
   rename_i a b c
   cases a with
   | unk => exact .inl rfl
   | brk => exact .inr (.inl rfl)
   | num n => exact hc
   | tru t => cases t <;> first | exact hc | exact hb
theorem eval_ty (day : Int) (fx : List Fx) : ∀ (r : Nat) (e : Ex),e.rk<=r->bE e=true->kE e ≠ 0->Ty (kE e) (evalE day fx e) := by
 intro r
 induction r with
 | zero => intro e h; have := e.rk_pos; omega
 | succ r ih =>
   intro e hr hb hk;obtain ⟨op,n,nm,l⟩ := e;obtain ⟨h1,-,h3⟩ := bE_inv hb;have hkids := kid_kinds hb hk;have hop := ar_op (by omega : 0<=ar op);rw [kE_mk] at hk ⊢;rw [evalE_mk];by_cases h4 : op<=4
   . have hl : l=[] := List.length_eq_zero_iff.1 (by rw [ar_nil hop.1 h4] at h1; omega);subst hl;have hk1 : kOf op (([] : List Ex).map kE)=1 := by
      obtain ⟨-,he⟩ := kOf_need (by omega : op ≠ 21) hk;rw [he]; unfold isK;rw [if_neg (by omega),if_neg (by omega),if_neg (by omega)]
     rw [hk1];unfold evO;by_cases h12 : op=1\/op=2
     . rw [if_pos h12]; exact .inr (.inr (.inl ⟨rfl,_,rfl⟩))
     . rw [if_neg h12];by_cases h44 : op=4
       . rw [if_pos h44]; exact .inr (.inr (.inl ⟨rfl,_,rfl⟩))
       . rw [if_neg h44,if_pos (by omega)];unfold seenV
         split
         . exact .inr (.inr (.inl ⟨rfl,_,rfl⟩))
         . exact .inl rfl
   . unfold evO;rw [if_neg (by omega),if_neg (by omega),if_neg (by omega)];refine shape_ty (shape_of (by omega) (by rw [List.length_map]; exact h1) (by rw [List.length_map,List.length_map]) hk (fun i k v hi hv => ?_));rw [List.getElem?_map] at hi hv
     cases hc : l[i]? with
     | none => rw [hc] at hi; cases hi
     | some c =>
       rw [hc] at hi hv;injection hi with hi; injection hv with hv;subst hi; subst hv;exact ih c (by have := Ex.rk_lt (op := op) (n := n) (nm := nm) hc; omega) (h3 c (List.mem_of_getElem? hc)) (hkids c (List.mem_of_getElem? hc))
end
section
theorem Ty.of1 {v : Vl} (h : Ty 1 v) : v=.unk\/v=.brk\/∃ n,v=.num n := by
 rcases h with h | h | ⟨-,h⟩ | ⟨h,-⟩
 . exact .inl h
 . exact .inr (.inl h)
 . exact .inr (.inr h)
 . omega
theorem Ty.of2 {v : Vl} (h : Ty 2 v) : v=.unk\/v=.brk\/∃ b,v=.tru b := by
 rcases h with h | h | ⟨h,-⟩ | ⟨-,h⟩
 . exact .inl h
 . exact .inr (.inl h)
 . omega
 . exact .inr (.inr h)
def opR (op : Int) (vs : List Vl) : Vl :=
 if op=17\/op=18 then (if vs.getD 0 .unk=.tru (decide (op=18))\/vs.getD 0 .unk=.brk then vs.getD 0 .unk else if vs.getD 0 .unk=.unk/\vs.getD 1 .unk ≠ .tru (decide (op=18))/\vs.getD 1 .unk ≠ .brk then vs.getD 0 .unk else vs.getD 1 .unk)
 else if op=21 then (if vs.getD 0 .unk=.tru true then vs.getD 1 .unk else if vs.getD 0 .unk=.tru false then vs.getD 2 .unk else vs.getD 0 .unk)
 else if vs.any (fun v => decide (v=.brk)) then .brk else if vs.any (fun v => decide (v=.unk)) then .unk
 else if op=19 then .tru (decide (vs.getD 0 .unk=.tru false)) else if 11<=op/\op<=16 then .tru (cmpV op (vs.getD 0 .unk).N (vs.getD 1 .unk).N)
 else numV (valueM op (vs.map Vl.N))
theorem opV_two {op : Int} {a b : Vl} (h : 5<=op/\op<=16) : opV op [a,b]=if a=.brk\/b=.brk then .brk else if a=.unk\/b=.unk then .unk else twoV op a.N b.N := by
 unfold opV;rw [if_neg (by omega),if_neg (by omega),if_neg (by omega),if_neg (by omega)]
 rfl
theorem opV_both {op : Int} {a b : Vl} (h : op=17\/op=18) : opV op [a,b]=bothV (decide (op=18)) a b := by unfold opV; rw [if_pos h]; rfl
def Rl (a b : Vl) : Prop := a=.unk\/a=.brk\/b=.brk\/a=b
noncomputable def evD (day : Int) (fx : List Fx) (op n : Int) (nm : ByteArray) (vs : List Vl) : Vl :=
 if op=1\/op=2 then .num n else if op=4 then .num day else if op=3 then seenV day fx nm else opR op vs
noncomputable def evalD (day : Int) (fx : List Fx) : Ex->Vl
 | .mk op n nm l => evD day fx op n nm (go l)
 where go : List Ex->List Vl
 | [] => []
 | e :: t => evalD day fx e :: go t
theorem eval_shape (day : Int) (fx : List Fx) {op n : Int} {nm : ByteArray} {l : List Ex} (hb : bE (.mk op n nm l)=true) (hk : kE (.mk op n nm l) ≠ 0) (h4 : 4 < op) :
 Shape op (l.map kE) (l.map (evalE day fx)) (kE (.mk op n nm l)) := by
 obtain ⟨h1,-,h3⟩ := bE_inv hb;have hkids := kid_kinds hb hk;rw [kE_mk] at hk ⊢;refine shape_of h4 (by rw [List.length_map]; exact h1) (by rw [List.length_map,List.length_map]) hk (fun i k v hi hv => ?_);rw [List.getElem?_map] at hi hv
 cases hc : l[i]? with
 | none => rw [hc] at hi; cases hi
 | some c =>
   rw [hc] at hi hv;injection hi with hi; injection hv with hv;subst hi; subst hv;exact eval_ty day fx _ c (Nat.le_refl _) (h3 c (List.mem_of_getElem? hc)) (hkids c (List.mem_of_getElem? hc))
end
section
def fxC (f : Fx) : List Value := [.string f.name,.int .i64 f.day,.int .i64 f.val]
def fxK : Elt Fx where
 sz := 3
 pos := by decide
 R := fun _ _ f cs => cs=fxC f/\f.name.size<=9223372036854775807/\I64 f.day/\I64 f.val
 kept := fun h _ => h
 less := fun h _ => h
 one := fun h => by obtain ⟨rfl,_⟩ := h; exact ⟨rfl,by simp [fxC,Value.oneCell']⟩
theorem fx_at {w : World} {X : List Nat} {fx : List Fx} {a : Option Addr} {len cap : Nat} (h : SlR fxK w X fx a len cap) (k : Nat) (hk : k < len) :
 ∃ b o f,a=some ⟨b,o,none⟩/\b < w.heap.size/\b ∉ X/\fx[k]?=some f/\f.name.size<=9223372036854775807/\I64 f.day/\I64 f.val/\w.cell? ⟨b,o + k * 3,none⟩=some (.string f.name)/\w.cell? ⟨b,o + k * 3 + 1,none⟩=some (.int .i64 f.day)/\w.cell? ⟨b,o + k * 3 + 2,none⟩=some (.int .i64 f.val) := by
 obtain ⟨b,o,f,cs,ha,hb,hX,hf,⟨rfl,h1,h2,h3⟩,-,hc⟩ := h.at k hk;exact ⟨b,o,f,ha,hb,hX,hf,h1,h2,h3,hc 0 _ rfl,hc 1 _ rfl,hc 2 _ rfl⟩
def seenRt : Vl->Ending
 | .num n => .returned (.tuple #[.int .i64 n,.bool true])
 | _ => .returned (.tuple #[.int .i64 0,.bool false])
def stF (fx : List Fx) (s : Int) : Option (Int × Int) := if s < 0 then none else (fx[s.toNat]?).map fun f => (f.day,f.val)
structure Best (day : Int) (nm : ByteArray) (fx : List Fx) (k : Nat) (s : Int) : Prop where
 lo : -1<=s
 hi : s < (k : Nat)
 eq : seenF day nm fx none=seenF day nm (fx.drop k) (stF fx s)
theorem Best.start (day : Int) (nm : ByteArray) (fx : List Fx) : Best day nm fx 0 (-1) := ⟨by omega,by omega,by simp [stF]⟩
theorem seenF_step {day : Int} {nm : ByteArray} {fx : List Fx} {k : Nat} {f : Fx} (hf : fx[k]?=some f) (b : Option (Int × Int)) :
 seenF day nm (fx.drop k) b=seenF day nm (fx.drop (k + 1)) (if eqv f.name nm=true/\f.day<=day/\(∀ p,b=some p->p.1 < f.day) then some (f.day,f.val) else b) := by
 obtain ⟨hk,he⟩ := List.getElem?_eq_some_iff.1 hf;rw [List.drop_eq_getElem_cons hk,he,seenF]
theorem Best.skip {day : Int} {nm : ByteArray} {fx : List Fx} {k : Nat} {s : Int} {f : Fx} (h : Best day nm fx k s) (hf : fx[k]?=some f) (hn : ¬ (f.name=nm/\f.day<=day/\(∀ p,stF fx s=some p->p.1 < f.day))) : Best day nm fx (k + 1) s :=
 ⟨h.lo,by have := h.hi; omega,by rw [h.eq,seenF_step hf,if_neg (by rw [eqv_iff]; exact hn)]⟩
theorem Best.take {day : Int} {nm : ByteArray} {fx : List Fx} {k : Nat} {s : Int} {f : Fx} (h : Best day nm fx k s) (hf : fx[k]?=some f) (hn : f.name=nm/\f.day<=day/\(∀ p,stF fx s=some p->p.1 < f.day)) : Best day nm fx (k + 1) (k : Nat) :=
 ⟨by omega,by omega,by
  rw [h.eq,seenF_step hf,if_pos (by rw [eqv_iff]; exact hn)];unfold stF;rw [if_neg (by omega),Int.toNat_natCast,hf]; rfl⟩
theorem Best.none {day : Int} {nm : ByteArray} {fx : List Fx} {s : Int} (h : Best day nm fx fx.length s) (hs : s < 0) : seenV day fx nm=.unk := by
 have := h.eq;rw [List.drop_length,seenF,stF,if_pos hs] at this;unfold seenV; rw [this]
theorem Best.some {day : Int} {nm : ByteArray} {fx : List Fx} {s : Nat} {f : Fx} (h : Best day nm fx fx.length (s : Nat)) (hf : fx[s]?=some f) : seenV day fx nm=.num f.val := by
 have := h.eq;rw [List.drop_length,seenF,stF,if_neg (by omega),Int.toNat_natCast,hf] at this;unfold seenV; rw [this]; rfl
theorem stF_neg {fx : List Fx} {s : Int} (h : s < 0) : ∀ (f : Fx) p,stF fx s=Option.some p->p.1 < f.day := by
 intro f p hp; rw [stF,if_pos h] at hp; cases hp
theorem stF_nat {fx : List Fx} {j : Nat} {g : Fx} (h : fx[j]?=Option.some g) : stF fx (j : Nat)=Option.some (g.day,g.val) := by
 rw [stF,if_neg (by omega),Int.toNat_natCast,h]; rfl
structure BestR (day : Int) (nm : ByteArray) (fx : List Fx) (k : Nat) (b : Bool) (d n : Int) : Prop where
 eq : seenF day nm fx .none=seenF day nm (fx.drop k) (if b then .some (d,n) else .none)
 no : b=false->d=0/\n=0
theorem BestR.start (day : Int) (nm : ByteArray) (fx : List Fx) : BestR day nm fx 0 false 0 0 := ⟨by simp,fun _ => ⟨rfl,rfl⟩⟩
theorem BestR.skip {day : Int} {nm : ByteArray} {fx : List Fx} {k : Nat} {b : Bool} {d n : Int} {f : Fx} (h : BestR day nm fx k b d n) (hf : fx[k]?=.some f) (hn : ¬ (f.name=nm/\f.day<=day/\(b=true->d < f.day))) : BestR day nm fx (k + 1) b d n :=
 ⟨by
  rw [h.eq,seenF_step hf,if_neg];rw [eqv_iff];rintro ⟨h1,h2,h3⟩;exact hn ⟨h1,h2,fun hb => h3 (d,n) (by rw [if_pos hb])⟩,h.no⟩
theorem BestR.take {day : Int} {nm : ByteArray} {fx : List Fx} {k : Nat} {b : Bool} {d n : Int} {f : Fx} (h : BestR day nm fx k b d n) (hf : fx[k]?=.some f) (hn : f.name=nm/\f.day<=day/\(b=true->d < f.day)) : BestR day nm fx (k + 1) true f.day f.val :=
 ⟨by
  rw [h.eq,seenF_step hf,if_pos,if_pos rfl];rw [eqv_iff];refine ⟨hn.1,hn.2.1,fun p hp => ?_⟩
  cases b with
  | false => rw [if_neg (by simp)] at hp; cases hp
  | true => rw [if_pos rfl] at hp; injection hp with hp; subst hp; exact hn.2.2 rfl,fun h => by cases h⟩
theorem BestR.done {day : Int} {nm : ByteArray} {fx : List Fx} {b : Bool} {d n : Int} (h : BestR day nm fx fx.length b d n) : seenRt (seenV day fx nm)=.returned (.tuple #[.int .i64 n,.bool b]) := by
 have e := h.eq;rw [List.drop_length,seenF] at e;unfold seenV; rw [e]
 cases b with
 | false => rw [(h.no rfl).2]; rfl
 | true => rfl
end
section
theorem blk4 {w : World} {g : Nat} {t : TypeId} {a b c d : Value} (h : Mem.Blk w g t #[a,b,c,d]) : w.cell? ⟨g,0,none⟩=some a/\w.cell? ⟨g,1,none⟩=some b/\w.cell? ⟨g,2,none⟩=some c/\w.cell? ⟨g,3,none⟩=some d /\
 w.frozen? ⟨g,0,none⟩=false/\w.frozen? ⟨g,1,none⟩=false/\w.frozen? ⟨g,2,none⟩=false/\w.frozen? ⟨g,3,none⟩=false :=
 ⟨h.cell 0,h.cell 1,h.cell 2,h.cell 3,h.frozen 0,h.frozen 1,h.frozen 2,h.frozen 3⟩
end
section
def fitN (o : Option Int) : Int := o.getD 0
def fitB (o : Option Int) : Bool := o.isSome
def fitR (o : Option Int) : Ending := .returned (.tuple #[.int .i64 (fitN o),.bool (fitB o)])
theorem fitI_yes {z : Int} (h1 : -9223372036854775808<=z) (h2 : z<=9223372036854775807) : fitI z=some z := by unfold fitI; rw [if_pos ⟨h1,h2⟩]
theorem fitI_no {z : Int} (h : ¬ (-9223372036854775808<=z/\z<=9223372036854775807)) : fitI z=none := by unfold fitI; rw [if_neg h]
theorem fitR_yes {z v : Int} (h : z=v) (h1 : -9223372036854775808<=z) (h2 : z<=9223372036854775807) : fitR (fitI z)=.returned (.tuple #[.int .i64 v,.bool true]) := by
 subst h; rw [fitI_yes h1 h2]; rfl
theorem fitR_no {z : Int} (h : ¬ (-9223372036854775808<=z/\z<=9223372036854775807)) : fitR (fitI z)=.returned (.tuple #[.int .i64 0,.bool false]) := by
 rw [fitI_no h]; rfl
theorem tup_eq {x s : Int} {b : Bool} (h : x=s) : Ending.returned (.tuple #[.int .i64 x,.bool b])=Ending.returned (.tuple #[.int .i64 s,.bool b]) := by rw [h]
theorem numAdd_any (a b : Int) (w : World) (ha : I64 a) (hb : I64 b) : Calls Tryz.prog 141 #[.int .i64 a,.int .i64 b] w fun e w' => e=fitR (fitI (a + b))/\w=w' := by
 unfold I64 at ha hb;obtain ⟨s,hs⟩ : ∃ s,wrap64 (a + b)=s := ⟨_,rfl⟩;have h2 : s=a + b\/s=a + b - 18446744073709551616\/s=a + b + 18446744073709551616 := by unfold wrap64 at hs; omega
 have h3 : -9223372036854775808<=s/\s<=9223372036854775807 := by unfold wrap64 at hs; omega
 have HS := LH9 hs;have HT : Hid (∀ x,a + b=x->-9223372036854775808<=x->x<=9223372036854775807->x=s) := by
  intro x hx h4 h5; unfold wrap64 at hs; omega
 by_cases h : -9223372036854775808<=a + b/\a + b<=9223372036854775807
 . obtain ⟨h4,h5⟩ := h;rw [fitR_yes rfl h4 h5];clear hs h2 h3 HS HT;by_cases ca : a < 0 <;> by_cases cb : b < 0 <;> by_cases cs : a + b < 0 <;> first
    | (exfalso; omega)
    | (skip
       go_enter Tryz.func141,Tryz.ntmps141
       go_wp2_with fail;go_ret2;exact ⟨rfl,rfl⟩)
 . rw [fitR_no h];by_cases ca : a < 0 <;> by_cases cb : b < 0 <;> by_cases cs : s < 0 <;> first
    | (exfalso; omega)
    | (clear h
       go_enter Tryz.func141,Tryz.ntmps141
       go_wp2_with fail;go_ret2;exact ⟨rfl,rfl⟩)
theorem numSub_any (a b : Int) (w : World) (ha : I64 a) (hb : I64 b) : Calls Tryz.prog 142 #[.int .i64 a,.int .i64 b] w fun e w' => e=fitR (fitI (a - b))/\w=w' := by
 unfold I64 at ha hb;obtain ⟨s,hs⟩ : ∃ s,wrap64 (a - b)=s := ⟨_,rfl⟩;have h2 : s=a - b\/s=a - b - 18446744073709551616\/s=a - b + 18446744073709551616 := by unfold wrap64 at hs; omega
 have h3 : -9223372036854775808<=s/\s<=9223372036854775807 := by unfold wrap64 at hs; omega
 have HS := LH9 hs;have HT : Hid (∀ x,a - b=x->-9223372036854775808<=x->x<=9223372036854775807->x=s) := by
  intro x hx h4 h5; unfold wrap64 at hs; omega
 by_cases h : -9223372036854775808<=a - b/\a - b<=9223372036854775807
 . obtain ⟨h4,h5⟩ := h;rw [fitR_yes rfl h4 h5];clear hs h2 h3 HS HT;by_cases ca : a < 0 <;> by_cases cb : b < 0 <;> by_cases cs : a - b < 0 <;> first
    | (exfalso; omega)
    | (skip
       go_enter Tryz.func142,Tryz.ntmps142
       go_wp2_with fail;go_ret2;exact ⟨rfl,rfl⟩)
 . rw [fitR_no h];by_cases ca : a < 0 <;> by_cases cb : b < 0 <;> by_cases cs : s < 0 <;> first
    | (exfalso; omega)
    | (clear h
       go_enter Tryz.func142,Tryz.ntmps142
       go_wp2_with fail;go_ret2;exact ⟨rfl,rfl⟩)
theorem numNeg_any (a : Int) (w : World) (ha : I64 a) : Calls Tryz.prog 52 #[.int .i64 a] w fun e w' => e=fitR (fitI (-a))/\w=w' := by
 unfold I64 at ha;by_cases h : a=-9223372036854775808
 . subst h;rw [fitR_no (by omega)];clear ha
   go_enter Tryz.func52,Tryz.ntmps52
   go_wp2_with fail;go_ret2;exact ⟨rfl,rfl⟩
 . have h' : (a == -9223372036854775808)=false := beq_eq_false_iff_ne.2 h;have h1 : -9223372036854775808<=-a := by omega
   have h2 : -a<=9223372036854775807 := by omega
   rw [fitR_yes rfl h1 h2]
   go_enter Tryz.func52,Tryz.ntmps52
   go_wp2_with fail;go_ret2;exact ⟨rfl,rfl⟩
theorem size_u (a : Int) (ha : I64 a) (h : a < 0) : IntKind.u64.wrap (-(IntKind.u64.wrap a))=(a.natAbs : Int) := by
 unfold I64 at ha;rw [IntKind.wrap_u64,IntKind.wrap_u64]; omega
theorem numSize_any (a : Int) (w : World) (ha : I64 a) : Calls Tryz.prog 128 #[.int .i64 a] w fun e w' => e=.returned (.int .u64 (a.natAbs : Int))/\w=w' := by
 have HS := LH9 (size_u a ha);have hx : Hid (¬ a < 0->a=(a.natAbs : Int)) := fun h => by omega
 unfold I64 at ha;by_cases h : a < 0
 . go_enter Tryz.func128,Tryz.ntmps128
   go_wp2_with fail;go_ret;exact ⟨congrArg (fun z => Ending.returned (.int .u64 z)) (HS.o h),rfl⟩
 . go_enter Tryz.func128,Tryz.ntmps128
   go_wp2_with fail;go_ret;exact ⟨congrArg (fun z => Ending.returned (.int .u64 z)) (hx.o h),rfl⟩
theorem mul64_any (x y : Nat) (hx : x < 18446744073709551616) (hy : y < 18446744073709551616) (w : World) :
 Calls Tryz.prog 127 #[.int .u64 x,.int .u64 y] w fun e w' => e=.returned (.tuple #[.int .u64 ((x * y / 18446744073709551616 : Nat) : Int),.int .u64 ((x * y % 18446744073709551616 : Nat) : Int)])/\w=w' := by
 obtain ⟨bd,bt,bw,hhi⟩ := Lib.mul64_hi x y hx hy;have p1 := Lib.half_mul_le (a := x / 4294967296) (b := y / 4294967296) (by omega) (by omega);have p2 := Lib.half_mul_le (a := x / 4294967296) (b := y % 4294967296) (by omega) (by omega);have p3 := Lib.half_mul_le (a := x % 4294967296) (b := y / 4294967296) (by omega) (by omega);have q1 : x / 4294967296 * (y / 4294967296) < 18446744073709551616 := by omega
 have q2 : x / 4294967296 * (y % 4294967296) < 18446744073709551616 := by omega
 have q3 : x % 4294967296 * (y / 4294967296) < 18446744073709551616 := by omega
 have r1 : x / 4294967296 * (y / 4294967296) + (x / 4294967296 * (y % 4294967296) + x % 4294967296 * (y % 4294967296) / 4294967296) / 4294967296 < 18446744073709551616 := by omega
 have r2 : x / 4294967296 * (y / 4294967296) + (x / 4294967296 * (y % 4294967296) + x % 4294967296 * (y % 4294967296) / 4294967296) / 4294967296 + ((x / 4294967296 * (y % 4294967296) + x % 4294967296 * (y % 4294967296) / 4294967296) % 4294967296 + x % 4294967296 * (y / 4294967296)) / 4294967296 < 18446744073709551616 := by omega
 go_enter Tryz.func127,Tryz.ntmps127
 go_wp2
 simp only [Mul64.maskN x hx,Mul64.maskN y hy,Mul64.divN,Mul64.mulN,Mul64.addN,Mul64.wrapN _ bd,Mul64.wrapN _ q2,Mul64.wrapN _ bt,Mul64.maskN _ bt,Mul64.wrapN _ q3,Mul64.wrapN _ bw,Mul64.wrapN _ q1,Mul64.wrapN _ r1,Mul64.wrapN _ r2,Mul64.wrapM (x * y)];rw [hhi];go_ret2;exact ⟨rfl,rfl⟩
theorem fdiv_pos {m n : Nat} (hn : 0 < n) : ((m : Int)).fdiv (n : Int)=((m / n : Nat) : Int) := by
 rw [Int.fdiv_eq_ediv_of_nonneg _ (by omega)]; rfl
theorem fdiv_neg {m n : Nat} (hn : 0 < n) : (-(m : Int)).fdiv (n : Int)=if 0 < m % n then -((m / n : Nat) : Int) - 1 else -((m / n : Nat) : Int) := by
 rw [Int.fdiv_eq_ediv_of_nonneg _ (by omega)];have h1 := Nat.div_add_mod m n;have h2 := Nat.mod_lt m hn;have h3 : (n : Int) * ((m / n : Nat) : Int) + ((m % n : Nat) : Int)=(m : Int) := by exact_mod_cast h1
 split
 . rename_i hr
   refine ((Int.ediv_emod_unique (r := (n : Int) - ((m % n : Nat) : Int)) (by omega)).2 ⟨?_,by omega,by omega⟩).1;have : (n : Int) * (-((m / n : Nat) : Int) - 1)=-((n : Int) * ((m / n : Nat) : Int)) - n := by rw [Int.mul_sub,Int.mul_neg,Int.mul_one]
   omega
 . refine ((Int.ediv_emod_unique (r := 0) (by omega)).2 ⟨?_,by omega,by omega⟩).1;have : (n : Int) * (-((m / n : Nat) : Int))=-((n : Int) * ((m / n : Nat) : Int)) := by rw [Int.mul_neg]
   omega
theorem fdiv_abs (a c : Int) (hc : c ≠ 0) : a.fdiv c=if (decide (a < 0))=(decide (c < 0)) then ((a.natAbs / c.natAbs : Nat) : Int) else if 0 < a.natAbs % c.natAbs then -((a.natAbs / c.natAbs : Nat) : Int) - 1 else -((a.natAbs / c.natAbs : Nat) : Int) := by
 have hn : 0 < c.natAbs := by omega
 by_cases ha : a < 0 <;> by_cases hcc : c < 0
 . have e1 : a=-(a.natAbs : Int) := by omega
   have e2 : c=-(c.natAbs : Int) := by omega
   rw [decide_eq_true ha,decide_eq_true hcc,if_pos rfl]
   conv => lhs; rw [e1,e2,Int.neg_fdiv_neg]
   exact fdiv_pos hn
 . have e1 : a=-(a.natAbs : Int) := by omega
   have e2 : c=(c.natAbs : Int) := by omega
   rw [decide_eq_true ha,decide_eq_false hcc,if_neg (by decide)]
   conv => lhs; rw [e1,e2]
   exact fdiv_neg hn
 . have e1 : a=(a.natAbs : Int) := by omega
   have e2 : c=-(c.natAbs : Int) := by omega
   rw [decide_eq_false ha,decide_eq_true hcc,if_neg (by decide)]
   conv => lhs; rw [e1,e2,<- Int.neg_fdiv_neg,Int.neg_neg]
   exact fdiv_neg hn
 . have e1 : a=(a.natAbs : Int) := by omega
   have e2 : c=(c.natAbs : Int) := by omega
   rw [decide_eq_false ha,decide_eq_false hcc,if_pos rfl]
   conv => lhs; rw [e1,e2]
   exact fdiv_pos hn
end
section
def sgB (a b : Int) : Bool := decide (a < 0) != decide (b < 0)
def wideV (n : Nat) (s : Bool) : Array Value := #[.int .u64 ((n / 18446744073709551616 : Nat) : Int),.int .u64 ((n % 18446744073709551616 : Nat) : Int),.bool s]
def sgI (s : Bool) (n : Nat) : Int := if s then -(n : Int) else n
theorem sgI_mul (a b : Int) : sgI (sgB a b) (a.natAbs * b.natAbs)=a * b := by
 rw [<- Int.natAbs_mul];unfold sgI sgB;by_cases ha : a < 0 <;> by_cases hb : b < 0
 . have := Int.mul_pos_of_neg_of_neg ha hb;simp [ha,hb]; omega
 . have := Int.mul_nonpos_of_nonpos_of_nonneg (Int.le_of_lt ha) (Int.not_lt.1 hb);simp [ha,hb]; omega
 . have := Int.mul_nonpos_of_nonneg_of_nonpos (Int.not_lt.1 ha) (Int.le_of_lt hb);simp [ha,hb]; omega
 . have := Int.mul_nonneg (Int.not_lt.1 ha) (Int.not_lt.1 hb);simp [ha,hb]; omega
theorem product_any (a b : Int) (w : World) (ha : I64 a) (hb : I64 b) : Calls Tryz.prog 97 #[.int .i64 a,.int .i64 b] w fun e w' => e=.returned (.agg (wideV (a.natAbs * b.natAbs) (sgB a b)))/\Below w.heap.size w w' := by
 have hA : a.natAbs < 18446744073709551616 := by unfold I64 at ha; omega
 have hB : b.natAbs < 18446744073709551616 := by unfold I64 at hb; omega
 have HM := LH9 (fun W => mul64_any a.natAbs b.natAbs hA hB W);have HA := LH9 (fun W => numSize_any a W ha);have HB := LH9 (fun W => numSize_any b W hb);have HE : Hid (∀ s,(decide (a < 0) != decide (b < 0))=s->sgB a b=s) := fun s h => h
 unfold wideV;generalize a.natAbs * b.natAbs / 18446744073709551616=hi at *;generalize a.natAbs * b.natAbs % 18446744073709551616=lo at *;clear ha hb hA hB;by_cases ca : a < 0 <;> by_cases cb : b < 0
 . have e := HE.o false (by rw [decide_eq_true ca,decide_eq_true cb]; rfl);exact Z7_76
 . have e := HE.o true (by rw [decide_eq_true ca,decide_eq_false cb]; rfl);exact Z7_77
 . have e := HE.o true (by rw [decide_eq_false ca,decide_eq_true cb]; rfl);exact Z7_77
 . have e := HE.o false (by rw [decide_eq_false ca,decide_eq_false cb]; rfl);exact Z7_76
theorem tup_b {x : Value} {b c : Bool} (h : b=c) : Ending.returned (.tuple #[x,.bool b])=Ending.returned (.tuple #[x,.bool c]) := by rw [h]
theorem narrow_yes (n : Nat) (s : Bool) (w : World) (hn : n < 340282366920938463463374607431768211456) (h1 : -9223372036854775808<=sgI s n) (h2 : sgI s n<=9223372036854775807) :
 Calls Tryz.prog 98 #[.agg (wideV n s)] w fun e w' => e=.returned (.tuple #[.int .i64 (sgI s n),.bool true])/\Below w.heap.size w w' := by
 have hhi : n / 18446744073709551616=0 := by unfold sgI at h1 h2; cases s <;> simp at h1 h2 <;> omega
 have hlo : n % 18446744073709551616=n := by omega
 unfold wideV;rw [hhi,hlo]
 cases s
 . have e : sgI false n=(n : Int) := rfl;rw [e] at h1 h2 ⊢;have n1 : (n : Int) < 9223372036854775808 := by omega
   have n2 : 0<=(n : Int) := by omega
   clear hhi hlo e hn
   go_enter Tryz.func98,Tryz.ntmps98
   go_wp2_with fail
   go_region
   go_wp2_with fail;go_ret2;exact ⟨rfl,below_drewN ((Below.refl _ _).alloc (Nat.le_refl _) _) _⟩
 . have e : sgI true n=-(n : Int) := rfl;rw [e] at h1 h2 ⊢;have n1 : (n : Int)<=9223372036854775808 := by omega
   have n2 : 0<=(n : Int) := by omega
   clear hhi hlo e hn
   go_enter Tryz.func98,Tryz.ntmps98
   go_wp2_with fail
   go_region
   go_wp2_with fail;go_ret2;exact ⟨tup_eq (x := wrap64 (-wrap64 (n : Int))) (by unfold wrap64; omega),below_drewN ((Below.refl _ _).alloc (Nat.le_refl _) _) _⟩
theorem narrow_no (n : Nat) (s : Bool) (w : World) (hn : n < 340282366920938463463374607431768211456) (h : ¬ (-9223372036854775808<=sgI s n/\sgI s n<=9223372036854775807)) :
 Calls Tryz.prog 98 #[.agg (wideV n s)] w fun e w' => (∃ v,e=.returned (.tuple #[.int .i64 v,.bool false]))/\Below w.heap.size w w' := by
 unfold wideV;by_cases hh : n / 18446744073709551616=0
 . have hlo : n % 18446744073709551616=n := by omega
   rw [hh,hlo]
   cases s
   . have n1 : ¬ (n : Int) < 9223372036854775808 := by unfold sgI at h; simp at h; omega
     have n2 : (n : Int) < 18446744073709551616 := by omega
     clear hh hlo hn h
     go_enter Tryz.func98,Tryz.ntmps98
     go_wp2_with fail
     go_region
     go_wp2_with fail;go_ret2;exact ⟨⟨_,tup_b (b := decide ((n : Int) < 9223372036854775808)) (decide_eq_false (by omega))⟩,below_drewN ((Below.refl _ _).alloc (Nat.le_refl _) _) _⟩
   . have n1 : ¬ (n : Int)<=9223372036854775808 := by unfold sgI at h; simp at h; omega
     have n2 : (n : Int) < 18446744073709551616 := by omega
     clear hh hlo hn h
     go_enter Tryz.func98,Tryz.ntmps98
     go_wp2_with fail
     go_region
     go_wp2_with fail;go_ret2;exact ⟨⟨_,tup_b (b := decide ((n : Int)<=9223372036854775808)) (decide_eq_false (by omega))⟩,below_drewN ((Below.refl _ _).alloc (Nat.le_refl _) _) _⟩
 . have h' : (((n / 18446744073709551616 : Nat) : Int) == 0)=false := beq_eq_false_iff_ne.2 (by omega);generalize ((n / 18446744073709551616 : Nat) : Int)=hi at *;clear hh hn h
   go_enter Tryz.func98,Tryz.ntmps98
   go_wp2_with fail;go_ret2;exact ⟨⟨_,rfl⟩,(Below.refl _ _).alloc (Nat.le_refl _) _⟩
theorem mag_bd (a b : Int) (ha : I64 a) (hb : I64 b) : a.natAbs * b.natAbs < 340282366920938463463374607431768211456 := by
 unfold I64 at ha hb;have := Nat.mul_le_mul (show a.natAbs<=9223372036854775808 by omega) (show b.natAbs<=9223372036854775808 by omega);omega
theorem numMul_any (a b : Int) (w : World) (ha : I64 a) (hb : I64 b) : Calls Tryz.prog 79 #[.int .i64 a,.int .i64 b] w fun e w' => e=fitR (fitI (a * b))/\Below w.heap.size w w' := by
 have HP := LH9 (fun W => product_any a b W ha hb);have hn := mag_bd a b ha hb;have E := sgI_mul a b;generalize a.natAbs * b.natAbs=n at *;generalize sgB a b=s at *;by_cases h : -9223372036854775808<=a * b/\a * b<=9223372036854775807
 . have HN := LH9 (fun W => narrow_yes n s W hn (by rw [E]; exact h.1) (by rw [E]; exact h.2));rw [fitR_yes rfl h.1 h.2];rw [E] at HN;generalize a * b=z at *;clear E h hn ha hb
   go_enter Tryz.func79,Tryz.ntmps79
   go_wp2_with fail;go_at_call 97;(with_reducible refine (HP.o _).mono ?_);rintro y w1 ⟨rfl,b1⟩;go_wp2_with fail;go_at_call 98;(with_reducible refine (HN.o _).mono ?_);rintro y w2 ⟨rfl,b2⟩;go_wp2_with fail;go_ret2;exact ⟨rfl,b1.trans (b2.mono b1.size)⟩
 . have HN := LH9 (fun W => narrow_no n s W hn (by rw [E]; exact h));rw [fitR_no h];clear E h hn ha hb
   go_enter Tryz.func79,Tryz.ntmps79
   go_wp2_with fail;go_at_call 97;(with_reducible refine (HP.o _).mono ?_);rintro y w1 ⟨rfl,b1⟩;go_wp2_with fail;go_at_call 98;(with_reducible refine (HN.o _).mono ?_);rintro y w2 ⟨⟨v,rfl⟩,b2⟩;go_wp2_with fail;go_ret2;exact ⟨rfl,b1.trans (b2.mono b1.size)⟩
theorem div64_any (x y : Nat) (hx : x < 18446744073709551616) (hy : 0 < y) (hy' : y < 18446744073709551616) (w : World) :
 Calls Tryz.prog 150 #[.int .u64 0,.int .u64 x,.int .u64 y] w fun e w' => e=.returned (.tuple #[.int .u64 ((x / y : Nat) : Int),.int .u64 ((x % y : Nat) : Int)])/\Below w.heap.size w w' := by
 have h1 : ((y : Int) == 0)=false := beq_eq_false_iff_ne.2 (by omega);have h1' : ¬ (y : Int)=0 := by omega
 have h2 : ¬ (y : Int)<=0 := by omega
 have e1 : Hid (IntKind.u64.wrap ((x : Int) / (y : Int))=((x / y : Nat) : Int)) := by
  have h := Nat.div_le_self x y;have hd : (x : Int) / (y : Int)=((x / y : Nat) : Int) := rfl;show _=_;rw [hd];generalize x / y=q at *;rw [IntKind.wrap_u64]; omega
 go_enter Tryz.func150,Tryz.ntmps150
 go_wp2_with fail
 go_region
 go_wp2_with fail;go_ret2;exact ⟨congrArg (fun z => Ending.returned (.tuple #[.int .u64 z,.int .u64 ((x % y : Nat) : Int)])) e1.o,below_drewN (Below.refl _ _) _⟩
theorem away_any (odd neg : Bool) (l y : Nat) (hl : l < y) (hy' : y < 18446744073709551616) (w : World) :
 Calls Tryz.prog 151 #[.int .i64 1,.bool odd,.bool neg,.int .u64 (l : Nat),.int .u64 (y : Nat)] w fun e w' => e=.returned (.bool (neg && decide (0 < l)))/\w=w' := by
 obtain ⟨d,hd⟩ : ∃ d : Int,(y : Int) - (l : Int)=d := ⟨_,rfl⟩;have hw : IntKind.u64.wrap d=d := by rw [IntKind.wrap_u64]; omega
 have HY : Hid (decide (0 < l)=decide ((0 : Int) < (l : Int))) := by
  by_cases h : 0 < l
  . show _=_; rw [decide_eq_true h,decide_eq_true (by omega)]
  . show _=_; rw [decide_eq_false h,decide_eq_false (by omega)]
 rw [HY.o];have h0 : (0 : Int)<=(l : Int) := by omega
 clear HY hl hy';generalize (y : Int)=Y at *;generalize (l : Int)=L at *;have hd0 : Y - L - d=0 := by omega
 by_cases h3 : 0 < L
 . rw [decide_eq_true h3];by_cases h4 : d < L
   . have h5 : (L == d)=false := beq_eq_false_iff_ne.2 (by omega)
     cases neg
     . go_enter Tryz.func151,Tryz.ntmps151
       clear hd0;go_wp2_with fail;go_ret;exact ⟨rfl,rfl⟩
     . go_enter Tryz.func151,Tryz.ntmps151
       clear hd0;go_wp2_with fail;go_ret;exact ⟨rfl,rfl⟩
   . by_cases h6 : L=d
     . exact Z7_122
     . have h5 : (L == d)=false := beq_eq_false_iff_ne.2 h6
       cases neg
       . go_enter Tryz.func151,Tryz.ntmps151
         clear hd0;go_wp2_with fail;go_ret;exact ⟨rfl,rfl⟩
       . go_enter Tryz.func151,Tryz.ntmps151
         clear hd0;go_wp2_with fail;go_ret;exact ⟨rfl,rfl⟩
 . obtain rfl : L=0 := by omega
   have h4 : ¬ d < 0 := by rw [IntKind.wrap_u64] at hw; omega
   by_cases h6 : (0 : Int)=d
   . exact Z7_122
   . have h5 : ((0 : Int) == d)=false := beq_eq_false_iff_ne.2 h6
     cases neg
     . go_enter Tryz.func151,Tryz.ntmps151
       clear hd0;go_wp2_with fail;go_ret;exact ⟨rfl,rfl⟩
     . go_enter Tryz.func151,Tryz.ntmps151
       clear hd0;go_wp2_with fail;go_ret;exact ⟨rfl,rfl⟩
end
section
theorem ov_cases (a c : Int) (hc : c ≠ 0) : ∃ q r : Nat,q=a.natAbs / c.natAbs/\r=a.natAbs % c.natAbs/\r < c.natAbs/\q<=a.natAbs/\(0 < r->q + 1<=a.natAbs + 0\/q=0) /\
 a.fdiv c=sgI (sgB a c) (if (sgB a c && decide (0 < r))=true then q + 1 else q) := by
 refine ⟨_,_,rfl,rfl,Nat.mod_lt _ (by omega),Nat.div_le_self _ _,?_,?_⟩
 . intro h;by_cases h1 : c.natAbs=1
   . rw [h1,Nat.mod_one] at h; omega
   . by_cases h0 : a.natAbs=0
     . right; rw [h0]; exact Nat.zero_div _
     . left
       have := Nat.div_lt_self (n := a.natAbs) (k := c.natAbs) (by omega) (by omega);omega
 . rw [fdiv_abs a c hc];unfold sgI sgB;generalize decide (a < 0)=x;generalize decide (c < 0)=y;by_cases hr : 0 < a.natAbs % c.natAbs
   . cases x <;> cases y <;> simp [hr] <;> omega
   . cases x <;> cases y <;> simp [hr]
theorem over_any (a c : Int) (w : World) (ha : I64 a) (hI : I64 c) (hc : c ≠ 0) :
 Calls Tryz.prog 148 #[.agg (wideV a.natAbs (decide (a < 0))),.int .i64 c,.int .i64 1] w fun e w' => e=fitR (fitI (a.fdiv c))/\Below w.heap.size w w' := by
 obtain ⟨q,r,hq,hr,hrc,hqa,hq1,hf⟩ := ov_cases a c hc;have hA : a.natAbs < 18446744073709551616 := by unfold I64 at ha; omega
 have hC : c.natAbs < 18446744073709551616 := by unfold I64 at hI; omega
 have HS := LH9 (fun W => numSize_any c W hI);have HD := LH9 (fun W => div64_any a.natAbs c.natAbs hA (by omega) hC W);rw [<- hq,<- hr] at HD;have HW := LH9 (fun odd W => away_any odd (sgB a c) r c.natAbs hrc hC W);have hQ : q + 1 < 18446744073709551616 := by unfold I64 at ha; omega
 obtain ⟨Q1,hQ1⟩ : ∃ Q1,q + 1=Q1 := ⟨_,rfl⟩;rw [hQ1] at hf;have HL := LH9 (show q<=Q1 by omega);have hne : ((Q1 : Int) == 0)=false := beq_eq_false_iff_ne.2 (by omega);have HY := LH9 (fun m (hm : m<=Q1) s W => narrow_yes m s W (by omega));have HN := LH9 (fun m (hm : m<=Q1) s W => narrow_no m s W (by omega));have hg : ¬ (c.natAbs : Int)<=0 := by omega
 have hwide : wideV a.natAbs (decide (a < 0))=#[.int .u64 0,.int .u64 (a.natAbs : Int),.bool (decide (a < 0))] := by
  unfold wideV;rw [show a.natAbs / 18446744073709551616=0 by omega,show a.natAbs % 18446744073709551616=a.natAbs by omega]; rfl
 rw [hwide];have HX : Hid (∀ m,m<=Q1->∀ s,wideV m s=#[.int .u64 0,.int .u64 (m : Int),.bool s]) := by
  intro m hm s;unfold wideV;rw [show m / 18446744073709551616=0 by omega,show m % 18446744073709551616=m by omega]; rfl
 have HSG : Hid (sgB a c=(decide (a < 0) != decide (c < 0))) := rfl;have B := Mem.Blk.new w 166 #[.int .u64 0,.int .u64 (a.natAbs : Int),.bool (decide (a < 0))];have c0 := B.cell 0;have c1 := B.cell 1;have c2 := B.cell 2;simp only [List.getElem?_toArray,List.getElem?_cons_zero,List.getElem?_cons_succ] at c0 c1 c2;have HB0 := LH9 ((Below.refl w.heap.size w).alloc (Nat.le_refl _) (.cells #[.int .u64 0,.int .u64 (a.natAbs : Int),.bool (decide (a < 0))] 166));generalize a.fdiv c=z at *;have hw : Hid (IntKind.u64.wrap ((q : Int) + 1)=(Q1 : Int)) := by show _=_; rw [IntKind.wrap_u64]; omega
 generalize sgB a c=sg at *;clear hwide hQ hQ1 hq hr hqa hq1 ha hI hA hC B hrc;generalize (a.natAbs : Int)=A at *;generalize (c.natAbs : Int)=C at *;generalize hsa : decide (a < 0)=sa at *;by_cases hcn : c < 0
 . have HCN := LH9 (decide_eq_true hcn);rw [decide_eq_true hcn] at HSG
   cases sa
   . exact Z7_21
   . obtain rfl : sg=false := HSG.o;clear HSG;have e0 : (false && decide (0 < r))=false := rfl;rw [e0] at HW;rw [e0,if_neg (by decide)] at hf;clear e0;by_cases h : -9223372036854775808<=z/\z<=9223372036854775807
     . have HY := LH9 (fun W => HY.o q HL.o false W (by rw [<- hf]; exact h.1) (by rw [<- hf]; exact h.2));exact Z7_36
     . have HN := LH9 (fun W => HN.o q HL.o false W (by rw [<- hf]; exact h));exact Z7_37
 . have HCN := LH9 (decide_eq_false hcn);rw [decide_eq_false hcn] at HSG
   cases sa
   . obtain rfl : sg=false := HSG.o;clear HSG;have e0 : (false && decide (0 < r))=false := rfl;rw [e0] at HW;rw [e0,if_neg (by decide)] at hf;clear e0;by_cases h : -9223372036854775808<=z/\z<=9223372036854775807
     . have HY := LH9 (fun W => HY.o q HL.o false W (by rw [<- hf]; exact h.1) (by rw [<- hf]; exact h.2));exact Z7_36
     . have HN := LH9 (fun W => HN.o q HL.o false W (by rw [<- hf]; exact h));exact Z7_37
   . exact Z7_21
theorem numMulDiv_any (a c : Int) (w : World) (ha : I64 a) (hI : I64 c) : Calls Tryz.prog 143 #[.int .i64 a,.int .i64 1,.int .i64 c,.int .i64 1] w fun e w' => e=fitR (if c=0 then none else fitI (a.fdiv c))/\Below w.heap.size w w' := by
 by_cases hc : c=0
 . subst hc;rw [if_pos rfl];have e : fitR none=.returned (.tuple #[.int .i64 0,.bool false]) := rfl;rw [e];clear e ha hI
   go_enter Tryz.func143,Tryz.ntmps143
   go_wp2_with fail;go_ret2;exact ⟨rfl,Below.refl _ _⟩
 . rw [if_neg hc];have HP := LH9 (fun W => product_any a 1 W ha (by unfold I64; omega));have e1 : a.natAbs * Int.natAbs 1=a.natAbs := Nat.mul_one _;have e2 : sgB a 1=decide (a < 0) := by unfold sgB; generalize decide (a < 0)=x; cases x <;> rfl
   rw [e1,e2] at HP;have HO := LH9 (fun W => over_any a c W ha hI hc);have hc' : (c == 0)=false := beq_eq_false_iff_ne.2 hc;generalize wideV a.natAbs (decide (a < 0))=V at *;obtain ⟨z1,z2,hz⟩ : ∃ z1 z2,fitR (fitI (a.fdiv c))=.returned (.tuple #[.int .i64 z1,.bool z2]) := ⟨_,_,rfl⟩;rw [hz] at HO ⊢;clear e1 e2 hz
   go_enter Tryz.func143,Tryz.ntmps143
   go_wp2_with fail;go_at_call 97;(with_reducible refine (HP.o _).mono ?_);rintro y w1 ⟨rfl,b1⟩;go_wp2_with fail;go_at_call 148;(with_reducible refine (HO.o _).mono ?_);rintro y w2 ⟨rfl,b2⟩;go_wp2_with fail;go_ret2;exact ⟨rfl,b1.trans (b2.mono b1.size)⟩
end
section
def rE (e : Ex) : Bool := decide (e.nd<=200/\e.rk<=16) && bE e
def rT (e : Te) : Bool := decide (e.nd<=200/\e.rk<=16) && bT e
theorem St.small {X Y : Nat} {x d : Int} (h : St X Y x d) : (decide (x<=200) && decide (d<=16))=decide (X<=200/\Y<=16) := by
 obtain ⟨rfl,h2,h3,h4⟩ := h;rw [Bool.eq_iff_iff];simp only [Bool.and_eq_true,decide_eq_true_eq]
 constructor
 . rintro ⟨a,b⟩; have := h4 (by omega); omega
 . rintro ⟨a,b⟩; have := h4 (by omega); omega
theorem St.told {X Y : Nat} {x d : Int} (h : St X Y x d) (hY : Y < 1000) : (if tld x d then x else 1000)=(if X < 1000 then (X : Int) else 1000)/\(if tld x d then d else 1000)=(if X < 1000 then (Y : Int) else 1000) := by
 obtain ⟨rfl,h2,h3,h4⟩ := h;by_cases hX : X < 1000
 . have e := h4 hX;have : tld (min (X : Int) 1000) d=true := by unfold tld; simp; omega
   rw [this,if_pos rfl,if_pos rfl,if_pos hX,if_pos hX]; omega
 . have : tld (min (X : Int) 1000) d=false := by unfold tld; exact decide_eq_false (by omega)
   simp [this,hX]
theorem rightExpr_any (e : Ex) (cs : List Value) (w : World) (hR : RepE w [] e cs) (hk : e.rk<=1000) :
 Calls Tryz.prog 90 #[.agg cs.toArray] w fun x w' => x=.returned (.bool (rE e))/\Below w.heap.size w w' := by
 have HS := LH9 (fun W hW => sizeExpr_any e.rk e (Nat.le_refl _) cs 0 W (hR.kept hW) (by omega) (by omega));have HB := LH9 (fun W hW => builtExpr_any e.rk e (Nat.le_refl _) cs W (hR.kept hW));have HD := LH9 (show rE e=(decide (e.nd<=200/\e.rk<=16) && bE e) from rfl);obtain ⟨op,n,nm,args,a,len,cap,rfl,rfl,_,_,_,_⟩ := hR.inv;have hk0 := LH9 (Kept.alloc w (.cells #[.int .i64 op,.int .i64 n,.string nm,.slice a len cap] 74) []);have HW0 := LH9 ((Below.refl w.heap.size w).alloc (Nat.le_refl _) (.cells #[.int .i64 op,.int .i64 n,.string nm,.slice a len cap] 74));have BX := LH9 (Mem.Blk.new w 74 #[.int .i64 op,.int .i64 n,.string nm,.slice a len cap]);generalize rE (.mk op n nm args)=R at *;generalize bE (.mk op n nm args)=B at *;clear hR hk
 go_enter Tryz.func90,Tryz.ntmps90
 go_wp2_with fail;refine (HS.o _ hk0.o).mono ?_; rintro x w1 ⟨hx,b1⟩;obtain ⟨x,d,rfl,hst⟩ := hx.st;have E := LH9 hst.small;clear hst hx;go_wp2_with fail;refine (small_size_any _ _ _).mono ?_; rintro x w2 ⟨rfl,b2⟩;rw [E.o];have W2 := LH9 ((HW0.o.trans (b1.mono HW0.o.size)).trans (b2.mono (HW0.o.trans (b1.mono HW0.o.size)).size));have k2 := LH9 ((hk0.o.trans (Kept.of_below b1 [])).trans (Kept.of_below b2 []));obtain ⟨c0,c1,c2,c3⟩ : Four w2 w.heap.size 0 (.int .i64 op) (.int .i64 n) (.string nm) (.slice a len cap) := ⟨((BX.o.below b1).below b2).cell 0,((BX.o.below b1).below b2).cell 1,((BX.o.below b1).below b2).cell 2,((BX.o.below b1).below b2).cell 3⟩;generalize decide ((Ex.mk op n nm args).nd<=200/\(Ex.mk op n nm args).rk<=16)=S at *;exact Z7_118
theorem right_any (e : Te) (cs : List Value) (w : World) (hR : RepT w [] e cs) (hk : e.rk<=1000) :
 Calls Tryz.prog 50 #[.agg cs.toArray] w fun x w' => x=.returned (.bool (rT e))/\Below w.heap.size w w' := by
 have HS := LH9 (fun W hW => sizeTerm_any e.rk e (Nat.le_refl _) cs 0 W (hR.kept hW) (by omega) (by omega));have HB := LH9 (fun W hW => built_any e.rk e (Nat.le_refl _) cs W (hR.kept hW));have HD := LH9 (show rT e=(decide (e.nd<=200/\e.rk<=16) && bT e) from rfl);obtain ⟨op,nm,ex,te,a,len,cap,a2,len2,cap2,rfl,rfl,_,_,_,_⟩ := hR.inv;have hk0 := LH9 (Kept.alloc w (.cells #[.int .i64 op,.string nm,.slice a len cap,.slice a2 len2 cap2] 41) []);have HW0 := LH9 ((Below.refl w.heap.size w).alloc (Nat.le_refl _) (.cells #[.int .i64 op,.string nm,.slice a len cap,.slice a2 len2 cap2] 41));have BX := LH9 (Mem.Blk.new w 41 #[.int .i64 op,.string nm,.slice a len cap,.slice a2 len2 cap2]);generalize rT (.mk op nm ex te)=R at *;generalize bT (.mk op nm ex te)=B at *;clear hR hk
 go_enter Tryz.func50,Tryz.ntmps50
 go_wp2_with fail;refine (HS.o _ hk0.o).mono ?_; rintro x w1 ⟨hx,b1⟩;obtain ⟨x,d,rfl,hst⟩ := hx.st;have E := LH9 hst.small;clear hst hx;go_wp2_with fail;refine (small_size_any _ _ _).mono ?_; rintro x w2 ⟨rfl,b2⟩;rw [E.o];have W2 := LH9 ((HW0.o.trans (b1.mono HW0.o.size)).trans (b2.mono (HW0.o.trans (b1.mono HW0.o.size)).size));have k2 := LH9 ((hk0.o.trans (Kept.of_below b1 [])).trans (Kept.of_below b2 []));obtain ⟨c0,c1,c2,c3⟩ : Four w2 w.heap.size 0 (.int .i64 op) (.string nm) (.slice a len cap) (.slice a2 len2 cap2) := ⟨((BX.o.below b1).below b2).cell 0,((BX.o.below b1).below b2).cell 1,((BX.o.below b1).below b2).cell 2,((BX.o.below b1).below b2).cell 3⟩;generalize decide ((Te.mk op nm ex te).nd<=200/\(Te.mk op nm ex te).rk<=16)=S at *;exact Z7_118
end
end Go.Proofs.YtmiinmndbkdjbaaGreat
