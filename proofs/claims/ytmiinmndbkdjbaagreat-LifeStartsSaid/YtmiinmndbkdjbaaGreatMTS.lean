/- A part of the proof: Big, BgT, BgA, BgB, BgC, BgD, BgE, one behind another. -/
import Derived.Test.YtmiinmndbkdjbaaGreatMTA
import Derived.Test.YtmiinmndbkdjbaaGreatMTC
import Derived.WalkSmall
import Derived.BigQuiet
import Derived.Deep.AppendLies
import Derived.StillTailTactics
import Derived.Lib.Hide
import Derived.WalkKit
set_option maxRecDepth 100000
set_option maxHeartbeats 16000000
set_option linter.unusedVariables false
set_option linter.unusedSimpArgs false
namespace Go.Proofs.YtmiinmndbkdjbaaGreat
open Go.RowKit
end Go.Proofs.YtmiinmndbkdjbaaGreat
namespace Go.Big
def val : List Nat→Nat
 | [] => 0
 | d :: l => d + 65536 * val l
def Dig (l : List Nat) : Prop := ∀ d ∈ l,d < 65536
def Norm (l : List Nat) : Prop := Dig l∧(∀ d,l.getLast?=some d→d ≠ 0)
def pw (k : Nat) : Nat := 65536 ^ k
theorem pw_succ (k : Nat) : pw (k + 1)=65536 * pw k := by unfold pw; rw [Nat.pow_succ,Nat.mul_comm]
theorem pw_pos (k : Nat) : 0 < pw k := Nat.pow_pos (by omega)
theorem pw_add (a b : Nat) : pw (a + b)=pw a * pw b := Nat.pow_add _ _ _
theorem pw_mono {a b : Nat} (h : a≤b) : pw a≤pw b := Nat.pow_le_pow_right (by omega) h
theorem Dig.nil : Dig [] := by intro d h; cases h
theorem Dig.append {a b : List Nat} (ha : Dig a) (hb : Dig b) : Dig (a ++ b) := by
 intro d h; rcases List.mem_append.1 h with h | h
 · exact ha d h
 · exact hb d h
theorem Dig.take {a : List Nat} (ha : Dig a) (k : Nat) : Dig (a.take k) := fun d h => ha d (List.mem_of_mem_take h)
theorem Dig.drop {a : List Nat} (ha : Dig a) (k : Nat) : Dig (a.drop k) := fun d h => ha d (List.mem_of_mem_drop h)
theorem Dig.getD {a : List Nat} (ha : Dig a) (k : Nat) : a.getD k 0 < 65536 := by
 rw [List.getD_eq_getElem?_getD]
 cases h : a[k]? with
 | none => simp
 | some d => exact ha d (List.mem_of_getElem? h)
theorem val_append (a b : List Nat) : val (a ++ b)=val a + pw a.length * val b := by
 induction a with
 | nil => simp [val,pw]
 | cons d l ih => simp only [List.cons_append,val,ih,List.length_cons,pw_succ]; rw [Nat.mul_add,Nat.mul_assoc,Nat.add_assoc]
theorem val_snoc (a : List Nat) (d : Nat) : val (a ++ [d])=val a + d * pw a.length := by
 rw [val_append]; simp [val,Nat.mul_comm]
theorem val_lt {a : List Nat} (h : Dig a) : val a < pw a.length := by
 induction a with
 | nil => simp [val,pw]
 | cons d l ih =>
   have h1 := h d (by simp);have h2 := ih (fun x hx => h x (by simp [hx]));simp only [val,List.length_cons,pw_succ]; omega
theorem val_take_succ (a : List Nat) (k : Nat) : val (a.take (k + 1))=val (a.take k) + a.getD k 0 * pw k := by
 by_cases h : k < a.length
 · rw [List.take_succ_eq_append_getElem h,val_snoc,List.length_take,Nat.min_eq_left (by omega)];simp [List.getD_eq_getElem?_getD,h]
 · rw [List.take_of_length_le (by omega),List.take_of_length_le (by omega)];simp [List.getD_eq_getElem?_getD,List.getElem?_eq_none (Nat.not_lt.1 h)]
theorem Norm.nil : Norm [] := ⟨Dig.nil,by simp⟩
theorem Norm.ne {a : List Nat} (h : Norm a) (hn : a ≠ []) : pw (a.length - 1)≤val a := by
 rcases List.eq_nil_or_concat a with rfl | ⟨l,d,rfl⟩
 · exact absurd rfl hn
 · have := h.2 d (by simp);simp only [List.concat_eq_append,val_snoc,List.length_append,List.length_singleton,Nat.add_sub_cancel];have : 1 * pw l.length≤d * pw l.length := Nat.mul_le_mul_right _ (by omega);omega
theorem Norm.nil_iff {a : List Nat} (h : Norm a) : a=[] ↔ val a=0 := by
 constructor
 · rintro rfl; rfl
 · intro h0;apply Classical.byContradiction; intro hn;have := h.ne hn;have := pw_pos (a.length - 1);omega
theorem Norm.length_le {a : List Nat} (h : Norm a) {k : Nat} (hv : val a < pw k) : a.length≤k := by
 apply Classical.byContradiction; intro hk;have hn : a ≠ [] := by rintro rfl; simp at hk
 have h1 := h.ne hn;have h2 := pw_mono (a := k) (b := a.length - 1) (by omega);omega
theorem Norm.length_lt_val {a b : List Nat} (ha : Norm a) (hb : Norm b) (h : a.length < b.length) : val a < val b := by
 have h1 := val_lt ha.1;have hn : b ≠ [] := by rintro rfl; simp at h
 have h2 := hb.ne hn;have h3 := pw_mono (a := a.length) (b := b.length - 1) (by omega);omega
def trim (l : List Nat) : List Nat := (l.reverse.dropWhile (· == 0)).reverse
theorem trim_snoc0 (l : List Nat) : trim (l ++ [0])=trim l := by simp [trim]
theorem trim_snoc (l : List Nat) (d : Nat) (h : d ≠ 0) : trim (l ++ [d])=l ++ [d] := by
 have : (d == 0)=false := by simp [h]
 simp [trim,this]
theorem trim_take_succ (l : List Nat) (k : Nat) (hk : k < l.length) (h0 : l.getD k 0=0) : trim (l.take (k + 1))=trim (l.take k) := by
 rw [List.take_succ_eq_append_getElem hk];have : l[k]=0 := by simpa [List.getD_eq_getElem?_getD,hk] using h0
 rw [this,trim_snoc0]
theorem trim_take_stop (l : List Nat) (k : Nat) (hk : k < l.length) (h0 : l.getD k 0 ≠ 0) : trim (l.take (k + 1))=l.take (k + 1) := by
 rw [List.take_succ_eq_append_getElem hk];have : l[k] ≠ 0 := by simpa [List.getD_eq_getElem?_getD,hk] using h0
 rw [trim_snoc _ _ this]
theorem trim_spec (l : List Nat) (h : Dig l) : Norm (trim l)∧val (trim l)=val l∧(trim l).length≤l.length := by
 rcases List.eq_nil_or_concat l with rfl | ⟨a,d,rfl⟩
 · exact ⟨Norm.nil,rfl,by simp [trim]⟩
 · simp only [List.concat_eq_append] at h ⊢;by_cases hd : d=0
   · subst hd;rw [trim_snoc0];have := trim_spec a (fun x hx => h x (by simp [hx]));refine ⟨this.1,by rw [this.2.1,val_snoc]; simp,?_⟩;have h3 := this.2.2;simp only [List.length_append,List.length_singleton]; omega
   · rw [trim_snoc _ _ hd];exact ⟨⟨h,fun x hx => by simp at hx; omega⟩,rfl,Nat.le_refl _⟩
termination_by l.length
theorem add_step (out a b : List Nat) (i carry : Nat) (hl : out.length=i) (hinv : val out + carry * pw i=val (a.take i) + val (b.take i)) :
 val (out ++ [(carry + a.getD i 0 + b.getD i 0) % 65536]) + (carry + a.getD i 0 + b.getD i 0) / 65536 * pw (i + 1)=val (a.take (i + 1)) + val (b.take (i + 1)) := by
 rw [val_snoc,hl,val_take_succ,val_take_succ,pw_succ];generalize a.getD i 0=x at *;generalize b.getD i 0=y at *;generalize pw i=P at *;have h1 : (carry + x + y) % 65536 * P + (carry + x + y) / 65536 * (65536 * P)=(carry + x + y) * P := by
  rw [← Nat.mul_assoc,← Nat.add_mul]; congr 1; omega
 have h2 : (carry + x + y) * P=carry * P + x * P + y * P := by rw [Nat.add_mul,Nat.add_mul]
 omega
theorem sub_step (out a b : List Nat) (i borrow : Nat) (hb : borrow≤1) (ha : Dig a) (hbd : Dig b) (hl : out.length=i) (hinv : val out + val (b.take i)=val (a.take i) + borrow * pw i) :
 val (out ++ [(65536 + a.getD i 0 - borrow - b.getD i 0) % 65536]) + val (b.take (i + 1))=val (a.take (i + 1)) + (1 - (65536 + a.getD i 0 - borrow - b.getD i 0) / 65536) * pw (i + 1) := by
 have hx := ha.getD i;have hy := hbd.getD i;rw [val_snoc,hl,val_take_succ,val_take_succ,pw_succ];generalize a.getD i 0=x at *;generalize b.getD i 0=y at *;generalize pw i=P at *;have hv : (65536 + x - borrow - y) / 65536≤1 := by omega
 have h1 : (65536 + x - borrow - y) % 65536 * P + y * P + borrow * P=x * P + (1 - (65536 + x - borrow - y) / 65536) * (65536 * P) := by
  rw [← Nat.mul_assoc,← Nat.add_mul,← Nat.add_mul,← Nat.add_mul]; congr 1; omega
 omega
theorem cmp_lt (a b : List Nat) (i : Nat) (ha : Dig a) (hl : a.length=b.length) (hi : i < a.length) (he : a.drop (i + 1)=b.drop (i + 1)) (hlt : a.getD i 0 < b.getD i 0) : val a < val b := by
 have e1 : val a=val (a.take (i + 1)) + pw (i + 1) * val (a.drop (i + 1)) := by
  conv => lhs; rw [← List.take_append_drop (i + 1) a]
  rw [val_append,List.length_take,Nat.min_eq_left (by omega)]
 have e2 : val b=val (b.take (i + 1)) + pw (i + 1) * val (b.drop (i + 1)) := by
  conv => lhs; rw [← List.take_append_drop (i + 1) b]
  rw [val_append,List.length_take,Nat.min_eq_left (by omega)]
 rw [e1,e2,he,val_take_succ,val_take_succ];have h1 := val_lt (ha.take i);rw [List.length_take,Nat.min_eq_left (by omega)] at h1;have h3 : (a.getD i 0 + 1) * pw i≤b.getD i 0 * pw i := Nat.mul_le_mul_right _ (by omega);rw [Nat.add_mul] at h3;omega
end Go.Big
namespace Go.Big
theorem val_digit (a : List Nat) (j : Nat) (ha : Dig a) : val a / pw j % 65536=a.getD j 0 := by
 induction a generalizing j with
 | nil => simp [val]
 | cons d l ih =>
   have hd := ha d (by simp);have hl : Dig l := fun x hx => ha x (by simp [hx])
   cases j with
   | zero => simp [val,pw]; omega
   | succ j =>
     rw [pw_succ,← Nat.div_div_eq_div_mul];have : val (d :: l) / 65536=val l := by simp only [val]; omega
     rw [this,ih j hl]; simp
theorem val_bit (a : List Nat) (i : Nat) (ha : Dig a) : val a / 2 ^ i % 2=a.getD (i / 16) 0 / 2 ^ (i % 16) % 2 := by
 have e : (2 : Nat) ^ i=pw (i / 16) * 2 ^ (i % 16) := by
  unfold pw;rw [show (65536 : Nat)=2 ^ 16 from rfl,← Nat.pow_mul,← Nat.pow_add]; congr 1; omega
 rw [e,← Nat.div_div_eq_div_mul,← val_digit a (i / 16) ha];generalize val a / pw (i / 16)=n;have hk : i % 16 < 16 := Nat.mod_lt _ (by omega);generalize i % 16=k at hk;have h2 : (65536 : Nat)=2 ^ k * 2 ^ (16 - k) := by rw [← Nat.pow_add,show k + (16 - k)=16 from by omega]
 have h3 : (2:Nat) ^ (16 - k)=2 * 2 ^ (15 - k) := by rw [show 16 - k=(15 - k) + 1 from by omega,Nat.pow_succ,Nat.mul_comm]
 have h4 : n % 65536 / 2 ^ k=n / 2 ^ k % 2 ^ (16 - k) := by rw [h2,Nat.mod_mul_right_div_self]
 rw [h4,h3,Nat.mod_mul_right_mod]
theorem val_set (q : List Nat) (j x : Nat) (hj : j < q.length) : val (q.set j (q.getD j 0 + x))=val q + x * pw j := by
 induction q generalizing j with
 | nil => simp at hj
 | cons d l ih =>
   cases j with
   | zero => simp [val,pw]; omega
   | succ j =>
     have := ih j (by simpa using hj);have e : (d :: l).getD (j + 1) 0=l.getD j 0 := by simp
     rw [e];simp only [List.set_cons_succ,val,this,pw_succ];rw [Nat.mul_add,Nat.mul_left_comm 65536 x]; omega
theorem div_step (A b i : Nat) (hb : 0 < b) (left q : Nat) (hleft : left=A / 2 ^ (i + 1) % b) (hq : q=A / 2 ^ (i + 1) / b * 2 ^ (i + 1)) :
 let l2 := 2 * left + A / 2 ^ i % 2
 (b≤l2→l2 - b=A / 2 ^ i % b∧q + 2 ^ i=A / 2 ^ i / b * 2 ^ i)∧(l2 < b→l2=A / 2 ^ i % b∧q=A / 2 ^ i / b * 2 ^ i) := by
 intro l2;have hl : l2=2 * left + A / 2 ^ i % 2 := rfl
 clear_value l2
 have e1 : A / 2 ^ (i + 1)=A / 2 ^ i / 2 := by rw [Nat.pow_succ,Nat.div_div_eq_div_mul]
 rw [e1] at hleft hq;have e2 : (2:Nat) ^ (i + 1)=2 * 2 ^ i := by rw [Nat.pow_succ,Nat.mul_comm]
 rw [e2] at hq;generalize A / 2 ^ i=N at *;generalize (2:Nat) ^ i=P at *;have hN : N=2 * (N / 2) + N % 2 := by omega
 have hd := Nat.div_add_mod (N / 2) b;have hlt := Nat.mod_lt (N / 2) hb;have hl2 : l2=2 * (N / 2 % b) + N % 2 := by rw [hl,hleft]
 generalize N / 2 / b=d at *;generalize N / 2 % b=r at *;have hNb : N=b * (2 * d) + l2 := by rw [Nat.mul_left_comm]; omega
 constructor
 · intro h;have h2 : l2 - b < b := by omega
   have hNb' : N=b * (2 * d + 1) + (l2 - b) := by rw [Nat.mul_add]; omega
   have hdiv : N / b=2 * d + 1 := by rw [hNb',Nat.mul_add_div hb,Nat.div_eq_of_lt h2]
   have hmod : N % b=l2 - b := by rw [hNb',Nat.mul_add_mod,Nat.mod_eq_of_lt h2]
   refine ⟨hmod.symm,?_⟩;rw [hdiv,hq,Nat.add_mul];have : d * (2 * P)=2 * d * P := by rw [← Nat.mul_assoc,Nat.mul_comm d 2]
   omega
 · intro h;have hdiv : N / b=2 * d := by rw [hNb,Nat.mul_add_div hb,Nat.div_eq_of_lt h,Nat.add_zero]
   have hmod : N % b=l2 := by rw [hNb,Nat.mul_add_mod,Nat.mod_eq_of_lt h]
   refine ⟨hmod.symm,?_⟩;rw [hdiv,hq];rw [← Nat.mul_assoc,Nat.mul_comm d 2]
def Bits (q : List Nat) (i : Nat) : Prop := Dig q∧(∀ j,j < i / 16→q.getD j 0=0)∧q.getD (i / 16) 0 % 2 ^ (i % 16)=0
theorem Bits.start (n : Nat) (i : Nat) : Bits (List.replicate n 0) i := by
 have h0 : ∀ j,(List.replicate n 0).getD j 0=0 := by
  intro j; rw [List.getD_eq_getElem?_getD,List.getElem?_replicate]; split <;> rfl
 refine ⟨fun d h => by have := List.eq_of_mem_replicate h; omega,fun j _ => h0 j,by rw [h0]; exact Nat.zero_mod _⟩
theorem getD_set (q : List Nat) (j k x : Nat) (hj : j < q.length) : (q.set j x).getD k 0=if k=j then x else q.getD k 0 := by
 rw [List.getD_eq_getElem?_getD,List.getElem?_set];by_cases h : j=k
 · subst h; simp [hj]
 · rw [if_neg h,if_neg (fun e => h e.symm),List.getD_eq_getElem?_getD]
theorem Bits.down (q : List Nat) (i : Nat) (h : Bits q (i + 1)) : Bits q i := by
 obtain ⟨h1,h2,h3⟩ := h;by_cases e : (i + 1) % 16=0
 · have e1 : (i + 1) / 16=i / 16 + 1 := by omega
   rw [e1] at h2 h3;refine ⟨h1,fun j hj => h2 j (by omega),by rw [h2 _ (by omega)]; exact Nat.zero_mod _⟩
 · have e1 : (i + 1) / 16=i / 16 := by omega
   have e2 : (i + 1) % 16=i % 16 + 1 := by omega
   rw [e1] at h2 h3;rw [e2,Nat.pow_succ] at h3;refine ⟨h1,h2,?_⟩;have := Nat.mod_mul_right_mod (q.getD (i / 16) 0) (2 ^ (i % 16)) 2;rw [h3] at this; rw [← this]; exact Nat.zero_mod _
theorem dig_room (x k : Nat) (hk : k < 16) (hx : x < 65536) (hm : x % 2 ^ (k + 1)=0) : x + 2 ^ k < 65536∧(x + 2 ^ k) % 2 ^ k=0 := by
 have h2 : (65536 : Nat)=2 ^ (k + 1) * 2 ^ (15 - k) := by rw [← Nat.pow_add,show k + 1 + (15 - k)=16 from by omega]
 have hp : 0 < (2:Nat) ^ k := Nat.pow_pos (by omega);have hs : (2:Nat) ^ (k + 1)=2 * 2 ^ k := by rw [Nat.pow_succ,Nat.mul_comm]
 obtain ⟨c,hc⟩ := Nat.dvd_of_mod_eq_zero hm;have hc2 : c < 2 ^ (15 - k) := by
  rw [h2,hc] at hx;exact Nat.lt_of_mul_lt_mul_left hx
 have h4 : 2 ^ (k + 1) * (c + 1)≤65536 := by rw [h2]; exact Nat.mul_le_mul_left _ (by omega)
 rw [Nat.mul_add,← hc,hs] at h4;refine ⟨by omega,?_⟩;rw [hc,hs,Nat.mul_right_comm,Nat.mul_comm (2 * c),];rw [Nat.add_mod_right,Nat.mul_mod_right]
theorem Bits.set_ (q : List Nat) (i : Nat) (h : Bits q (i + 1)) (hi : i / 16 < q.length) :
 Bits (q.set (i / 16) (q.getD (i / 16) 0 + 2 ^ (i % 16))) i∧q.getD (i / 16) 0 + 2 ^ (i % 16) < 65536 := by
 have hz : q.getD (i / 16) 0 % 2 ^ (i % 16 + 1)=0 := by
  obtain ⟨h1,h2,h3⟩ := h;by_cases e : (i + 1) % 16=0
  · have e1 : (i + 1) / 16=i / 16 + 1 := by omega
    rw [e1] at h2;rw [h2 _ (by omega)]; exact Nat.zero_mod _
  · have e1 : (i + 1) / 16=i / 16 := by omega
    have e2 : (i + 1) % 16=i % 16 + 1 := by omega
    rw [e1,e2] at h3; exact h3
 have hd := dig_room _ _ (Nat.mod_lt i (by omega)) (h.1.getD (i / 16)) hz;have hdown := h.down;refine ⟨⟨?_,?_,?_⟩,hd.1⟩
 · intro d hm;rcases List.mem_or_eq_of_mem_set hm with hm | rfl
   · exact h.1 d hm
   · exact hd.1
 · intro j hj;rw [getD_set _ _ _ _ hi,if_neg (by omega)];exact hdown.2.1 j hj
 · rw [getD_set _ _ _ _ hi,if_pos rfl]; exact hd.2
theorem set_val (q : List Nat) (i : Nat) (hi : i / 16 < q.length) : val (q.set (i / 16) (q.getD (i / 16) 0 + 2 ^ (i % 16)))=val q + 2 ^ i := by
 rw [val_set _ _ _ hi]
 congr 1
 unfold pw;rw [show (65536 : Nat)=2 ^ 16 from rfl,← Nat.pow_mul,← Nat.pow_add]; congr 1; omega
theorem val_zero (n : Nat) : val (List.replicate n 0)=0 := by
 induction n with
 | zero => rfl
 | succ n ih => simp [List.replicate_succ,val,ih]
end Go.Big
namespace Go.Proofs.YtmiinmndbkdjbaaGreat
open Go.RowKit
end Go.Proofs.YtmiinmndbkdjbaaGreat
namespace Go.Big
theorem val_put (q : List Nat) (j y : Nat) (hj : j < q.length) : val (q.set j y) + q.getD j 0 * pw j=val q + y * pw j := by
 induction q generalizing j with
 | nil => simp at hj
 | cons d l ih =>
   cases j with
   | zero => simp [val,pw]; omega
   | succ j =>
     have := ih j (by simpa using hj);have e : (d :: l).getD (j + 1) 0=l.getD j 0 := by simp
     rw [e];simp only [List.set_cons_succ,val,pw_succ];have h1 : l.getD j 0 * (65536 * pw j)=65536 * (l.getD j 0 * pw j) := Nat.mul_left_comm _ _ _;have h2 : y * (65536 * pw j)=65536 * (y * pw j) := Nat.mul_left_comm _ _ _;rw [h1,h2];omega
theorem Dig.set {q : List Nat} (h : Dig q) (j y : Nat) (hy : y < 65536) : Dig (q.set j y) := by
 intro d hd;rcases List.mem_or_eq_of_mem_set hd with h1 | h1
 · exact h d h1
 · omega
structure MulIn (A B q : List Nat) (i k c : Nat) : Prop where
 len : q.length=A.length + B.length + 1
 dig : Dig q
 up : ∀ j,i + B.length≤j→q.getD j 0=0
 va : val q + c * pw (i + k)=val (A.take i) * val B + A.getD i 0 * val (B.take k) * pw i
 car : c < 65536
structure MulOut (A B q : List Nat) (i : Nat) : Prop where
 len : q.length=A.length + B.length + 1
 dig : Dig q
 up : ∀ j,i + B.length≤j→q.getD j 0=0
 va : val q=val (A.take i) * val B
variable {A B q : List Nat} {i k c : Nat}
theorem MulOut.start (h : MulOut A B q i) : MulIn A B q i 0 0 := ⟨h.len,h.dig,h.up,by simp [val,h.va],by omega⟩
theorem MulOut.zero (A B : List Nat) : MulOut A B (List.replicate (A.length + B.length + 1) 0) 0 := by
 refine ⟨by simp,(Bits.start _ 0).1,fun j _ => ?_,?_⟩
 · rw [List.getD_eq_getElem?_getD,List.getElem?_replicate]; split <;> rfl
 · have : ∀ n,val (List.replicate n 0)=0 := by
    intro n; induction n with
    | zero => rfl
    | succ n ih => rw [List.replicate_succ]; simp [val,ih]
   rw [this]; simp [val]
theorem mul_bd {x y z c : Nat} (hx : x < 65536) (hy : y < 65536) (hz : z < 65536) (hc : c < 65536) : x * y≤4294836225∧z + x * y + c < 4294967296 := by
 have : x * y≤65535 * 65535 := Nat.mul_le_mul (by omega) (by omega);omega
theorem MulIn.step (h : MulIn A B q i k c) (hA : Dig A) (hB : Dig B) (hi : i < A.length) (hk : k < B.length) :
 MulIn A B (q.set (i + k) ((q.getD (i + k) 0 + A.getD i 0 * B.getD k 0 + c) % 65536)) i (k + 1) ((q.getD (i + k) 0 + A.getD i 0 * B.getD k 0 + c) / 65536) := by
 have hx := hA.getD i;have hy := hB.getD k;have hz := h.dig.getD (i + k);have hlen := h.len;have hb := mul_bd hx hy hz h.car;refine ⟨by rw [List.length_set,h.len],h.dig.set _ _ (Nat.mod_lt _ (by decide)),fun j hj => ?_,?_,by omega⟩
 · rw [getD_set _ _ _ _ (by omega),if_neg (by omega)]; exact h.up j hj
 · have h1 := val_put q (i + k) ((q.getD (i + k) 0 + A.getD i 0 * B.getD k 0 + c) % 65536) (by omega);have h2 := h.va;rw [val_take_succ,← Nat.add_assoc i k 1,pw_succ];have e : A.getD i 0 * (val (B.take k) + B.getD k 0 * pw k) * pw i=A.getD i 0 * val (B.take k) * pw i + A.getD i 0 * B.getD k 0 * pw (i + k) := by
    rw [pw_add,Nat.mul_add,Nat.add_mul]
    congr 1
    rw [← Nat.mul_assoc (A.getD i 0),Nat.mul_assoc (A.getD i 0 * B.getD k 0),Nat.mul_comm (pw k)]
   rw [e];generalize val (q.set (i + k) ((q.getD (i + k) 0 + A.getD i 0 * B.getD k 0 + c) % 65536))=V' at *;generalize A.getD i 0 * val (B.take k) * pw i=M at *;generalize val (A.take i) * val B=L at *;generalize pw (i + k)=P at *;generalize A.getD i 0 * B.getD k 0=xy at *;generalize q.getD (i + k) 0=z at *;generalize val q=V at *;have h3 : (z + xy + c) % 65536 * P + (z + xy + c) / 65536 * (65536 * P)=(z + xy + c) * P := by
    rw [← Nat.mul_assoc,← Nat.add_mul]; congr 1; omega
   have h4 : (z + xy + c) * P=z * P + xy * P + c * P := by rw [Nat.add_mul,Nat.add_mul]
   omega
theorem MulIn.done (h : MulIn A B q i B.length c) (hi : i < A.length) :
 q.getD (i + B.length) 0=0∧MulOut A B (q.set (i + B.length) (q.getD (i + B.length) 0 + c)) (i + 1) := by
 have h0 := h.up (i + B.length) (Nat.le_refl _);have hlen := h.len;refine ⟨h0,by rw [List.length_set,h.len],h.dig.set _ _ (by have := h.car; omega),fun j hj => ?_,?_⟩
 · rw [getD_set _ _ _ _ (by omega),if_neg (by omega)]; exact h.up j (by omega)
 · have h1 := val_put q (i + B.length) (q.getD (i + B.length) 0 + c) (by omega);have h2 := h.va;rw [List.take_of_length_le (Nat.le_refl B.length)] at h2;rw [h0] at h1 ⊢;rw [val_take_succ,Nat.add_mul];have e : A.getD i 0 * pw i * val B=A.getD i 0 * val B * pw i := by rw [Nat.mul_assoc,Nat.mul_comm (pw i),← Nat.mul_assoc]
   rw [e];simp only [Nat.zero_mul,Nat.add_zero,Nat.zero_add] at h1 ⊢;omega
theorem MulOut.all (h : MulOut A B q A.length) : val q=val A * val B := by rw [h.va,List.take_of_length_le (Nat.le_refl _)]
end Go.Big
namespace Go.Proofs.YtmiinmndbkdjbaaGreat
open Go.RowKit
section
theorem ret_int {k : IntKind} {a b : Int} (h : a=b) : Ending.returned (.int k a)=.returned (.int k b) := by rw [h]
def Nums (w : World) (a : Option Addr) (len cap : Nat) (l : List Nat) : Prop :=
 l.length=len∧len≤cap∧cap≤9223372036854775807∧(0 < len→∃ b o,a=some ⟨b,o,none⟩∧b < w.heap.size∧∀ i x,l[i]?=some x→w.cell? ⟨b,o + i,none⟩=some (.int .u64 (x : Nat)))
theorem Nums.below {w w' : World} {a : Option Addr} {len cap : Nat} {l : List Nat} (h : Nums w a len cap l) (hb : Below w.heap.size w w') : Nums w' a len cap l := by
 obtain ⟨h1,h2,h2',h3⟩ := h;refine ⟨h1,h2,h2',fun hl => ?_⟩;obtain ⟨b,o,ha,hlt,hc⟩ := h3 hl;exact ⟨b,o,ha,Nat.lt_of_lt_of_le hlt hb.size,fun i x hx => (hb.cell (p := ⟨b,o + i,none⟩) hlt).trans (hc i x hx)⟩
theorem Nums.take {w : World} {a : Option Addr} {len cap : Nat} {l : List Nat} (h : Nums w a len cap l) (k : Nat) (hk : k≤len) : Nums w a k cap (l.take k) := by
 obtain ⟨h1,h2,h2',h3⟩ := h;refine ⟨by simp; omega,by omega,h2',fun hl => ?_⟩;obtain ⟨b,o,ha,hlt,hc⟩ := h3 (by omega);refine ⟨b,o,ha,hlt,fun i x hx => hc i x ?_⟩;rw [List.getElem?_take] at hx
 split at hx
 · exact hx
 · cases hx
theorem Nums.at {w : World} {a : Option Addr} {len cap : Nat} {l : List Nat} (h : Nums w a len cap l) (k : Nat) (hk : k < len) : ∃ b o,a=some ⟨b,o,none⟩∧b < w.heap.size∧w.cell? ⟨b,o + k,none⟩=some (.int .u64 (l.getD k 0 : Nat)) := by
 obtain ⟨h1,h2,h2',h3⟩ := h;obtain ⟨b,o,ha,hlt,hc⟩ := h3 (by omega);refine ⟨b,o,ha,hlt,?_⟩;rw [hc k (l.getD k 0) (by rw [List.getD_eq_getElem?_getD,List.getElem?_eq_getElem (by omega)]; rfl)]
theorem trim_len (l : List Nat) : Big.trim l=l.take (Big.trim l).length := by
 unfold Big.trim;have h := List.dropWhile_suffix (fun x : Nat => x == 0) (l := l.reverse);have h2 : (l.reverse.dropWhile (· == 0)).reverse <+: l := by
  have := List.reverse_prefix.2 h
  rwa [List.reverse_reverse] at this
 exact List.prefix_iff_eq_take.1 h2
theorem trim_le (l : List Nat) : (Big.trim l).length≤l.length := by
 rw [trim_len l,List.length_take]; exact Nat.min_le_right _ _
def lenOf : Value→Nat | .slice _ n _ => n | _ => 0
theorem trim_any (a : Option Addr) (len cap : Nat) (l : List Nat) (w : World) (hl : Nums w a len cap l) :
 Calls Tryz.prog 76 #[.slice a len cap] w fun e w' => e=.returned (.slice a (Big.trim l).length cap)∧w=w' := by
 have HL := LH9 hl;have h1 := hl.1;have h2 := hl.2.1;have h3 := hl.2.2.1;have H1 := LH9 h1;clear hl h1
 go_enter Tryz.func76,Tryz.ntmps76
 go_wp2_with fail
 go_loop [0] (fun i => ∃ k : Nat,i=.slice a k cap∧k≤len∧Hid (Big.trim l=Big.trim (l.take k))) (fun i => lenOf i)
 case atStart => exact ⟨len,rfl,Nat.le_refl _,by show _=_; rw [List.take_of_length_le (by rw [H1.o]; exact Nat.le_refl _)]⟩
 case round =>
  obtain ⟨k,rfl,hk,HX⟩ := hrel
  cases k with
  | zero =>
    have FIN : Hid ((Big.trim l).length=0) := by show _=_; rw [HX.o]; rfl
    go_wp2
    go_ret;rw [FIN.o]; exact ⟨rfl,rfl⟩
  | succ j =>
    obtain ⟨b,o,rfl,hb,hc⟩ := HL.o.at j (by omega);have hj : j < l.length := by rw [H1.o]; omega
    have T0 := LH9 (Big.trim_take_succ l j hj);have T1 := LH9 (Big.trim_take_stop l j hj);clear hj;generalize l.getD j 0=x at *;by_cases hx : x=0
    · have HN : Hid (Big.trim l=Big.trim (l.take j)) := by show _=_; rw [HX.o,T0.o hx]
      subst hx
      go_wp2
      go_round
      case rel => exact ⟨j,by go_num,by omega,HN⟩
      case measure => simp [lenOf]
    · have hx2 : ((x : Int) == 0)=false := by simp [hx]
      have FIN : Hid ((Big.trim l).length=j + 1) := by
       show _=_;rw [HX.o,T1.o hx,List.length_take,H1.o]; omega
      clear hx
      go_wp2
      go_ret;rw [FIN.o]; exact ⟨rfl,rfl⟩
end
section
def cmpI (a b : List Nat) : Int := if Big.val a < Big.val b then -1 else if Big.val a=Big.val b then 0 else 1
theorem cmp_any (a : Option Addr) (len cap : Nat) (l : List Nat) (a' : Option Addr) (len' cap' : Nat) (l' : List Nat) (w : World) (hl : Nums w a len cap l) (hl' : Nums w a' len' cap' l') (hn : Big.Norm l) (hn' : Big.Norm l') :
 Calls Tryz.prog 74 #[.slice a len cap,.slice a' len' cap'] w fun e w' => e=.returned (.int .i64 (cmpI l l'))∧Below w.heap.size w w' := by
 have HR := LH9 (fun (x : Int) (h : cmpI l l'=x) => (ret_int h.symm : Ending.returned (.int .i64 x)=.returned (.int .i64 (cmpI l l'))));have h2 := hl.2.1;have h3 := hl.2.2.1;have h2' := hl'.2.1;have h3' := hl'.2.2.1;have HL := LH9 hl;have HL' := LH9 hl';rcases Nat.lt_trichotomy len len' with hlt | rfl | hlt
 · have FIN := LH9 (HR.o (-1) (by unfold cmpI; rw [if_pos (hn.length_lt_val hn' (by rw [hl.1,hl'.1]; exact hlt))]));have t1 : ((len : Int) == (len' : Int))=false := by simp; omega
   clear hl hl' hn hn'
   go_enter Tryz.func74,Tryz.ntmps74
   go_wp2
   go_ret;exact ⟨FIN.o,Below.refl _ _⟩
 · have HN := LH9 hn;have HN' := LH9 hn';have HE := LH9 (show l.length=l'.length by rw [hl.1,hl'.1]);have H1 := LH9 hl.1;clear hl hl' hn hn'
   go_enter Tryz.func74,Tryz.ntmps74
   go_wp2_with fail
   go_loopw [5] (fun i wr => ∃ k : Nat,i=.int .i64 ((k : Int) - 1)∧k≤len∧Hid (l.drop k=l'.drop k)∧Below w.heap.size w wr) (fun i _ => (intOf i + 1).toNat)
   case atStart => exact ⟨len,rfl,Nat.le_refl _,by show _=_; rw [List.drop_of_length_le (by rw [H1.o]; exact Nat.le_refl _),List.drop_of_length_le (by rw [← HE.o,H1.o]; exact Nat.le_refl _)],Below.refl _ _⟩
   case round =>
    obtain ⟨k,rfl,hk,HX,hbel⟩ := hrel
    cases k with
    | zero =>
      have FIN := LH9 (HR.o 0 (by
       have e : l=l' := by simpa using HX.o
       unfold cmpI; rw [e,if_neg (Nat.lt_irrefl _),if_pos rfl]))
      go_wp2
      go_ret;exact ⟨FIN.o,hbel⟩
    | succ j =>
      obtain ⟨b,o,rfl,hb,hc⟩ := (HL.o.below hbel).at j (by omega);obtain ⟨b',o',rfl,hb',hc'⟩ := (HL'.o.below hbel).at j (by omega);have hj : j < l.length := by rw [H1.o]; omega
      have C1 := LH9 (Big.cmp_lt l l' j HN.o.1 HE.o hj HX.o);have C2 := LH9 (Big.cmp_lt l' l j HN'.o.1 HE.o.symm (by rw [← HE.o]; exact hj) HX.o.symm);have hd : Hid (l.getD j 0=l'.getD j 0→l.drop j=l'.drop j) := by
       show _→_;intro h;have hj' : j < l'.length := by rw [← HE.o]; exact hj
       rw [List.drop_eq_getElem_cons hj,List.drop_eq_getElem_cons hj',HX.o];rw [List.getD_eq_getElem?_getD,List.getD_eq_getElem?_getD,List.getElem?_eq_getElem hj,List.getElem?_eq_getElem hj'] at h;simp at h;rw [h]
      clear hj;generalize l.getD j 0=x at *;generalize l'.getD j 0=y at *;rcases Nat.lt_trichotomy x y with hxy | rfl | hxy
      · have FIN := LH9 (HR.o (-1) (by unfold cmpI; rw [if_pos (C1.o hxy)]))
        go_wp2_with fail
        go_quiet (fail)
        go_wp2
        go_ret;exact ⟨FIN.o,below_drewN hbel _⟩
      · have HN2 := LH9 (hd.o rfl)
        go_wp2_with fail
        go_quiet (fail)
        go_wp2_with fail
        go_quiet (fail)
        go_wp2_with fail
        go_roundw
        case rel => exact ⟨j,by go_num,by omega,HN2,below_drewN hbel _⟩
        case measure => simp [intOf]
      · have FIN := LH9 (HR.o 1 (by unfold cmpI; have := C2.o hxy; rw [if_neg (by omega),if_neg (by omega)]))
        go_wp2_with fail
        go_quiet (fail)
        go_wp2_with fail
        go_quiet (fail)
        go_wp2
        go_ret;exact ⟨FIN.o,below_drewN (below_drewN hbel _) _⟩
 · have hv := hn'.length_lt_val hn (by rw [hl.1,hl'.1]; exact hlt);have FIN := LH9 (HR.o 1 (by unfold cmpI; rw [if_neg (by omega),if_neg (by omega)]));have t1 : ((len : Int) == (len' : Int))=false := by simp; omega
   clear hl hl' hn hn' hv
   go_enter Tryz.func74,Tryz.ntmps74
   go_wp2
   go_ret;exact ⟨FIN.o,Below.refl _ _⟩
end
section
theorem infoU64 : (Tryz.prog.info? 141).map (fun i => (i.zero,i.size,i.bytes))=some (some (.int .u64 0),1,8) := by kernel_rfl
def dv (l : List Nat) : List Value := l.map (fun d => Value.int .u64 (d : Nat))
theorem dv_one (l : List Nat) : ∀ u ∈ dv l,u.oneCell'=true := by intro u h; unfold dv at h; simp at h; obtain ⟨_,_,rfl⟩ := h; rfl
theorem dv_app (a b : List Nat) : dv a ++ dv b=dv (a ++ b) := by simp [dv]
theorem own_nums {w0 w : World} {v : Value} {n : Nat} {l : List Nat} (h : Mem.Own w0 w 141 1 v n (dv l)) (hn : l.length=n) : ∃ a cap,v=.slice a n cap∧Nums w a n cap l := by
 have hmx : maxLen=9223372036854775807 := by decide
 rcases h.own.2 with ⟨rfl,rfl⟩ | ⟨g,cap,cur,rfl,h1,h2,h3,h4,h5,h6⟩
 · exact ⟨none,0,rfl,hn,by omega,by omega,fun h => absurd h (by omega)⟩
 · refine ⟨_,cap,rfl,hn,h3,by omega,fun hp => ⟨g,0,rfl,lt_of_block h2,fun i x hx => ?_⟩⟩;have hi : i < l.length := (List.getElem?_eq_some_iff.1 hx).1;rw [Nat.zero_add,h.cell i (by omega)];simp [dv,hx]
theorem digs_cells (w : World) (x : Nat) (z : Int) (hz : z=(x : Int)) : ∀ j u,(dv [x])[j]?=some u→(w.alloc (.cells #[.int .u64 z] 141)).cell? ((⟨w.heap.size,0,none⟩ : Addr).add j)=some u := by
 subst hz; exact Mem.lit_cells w #[.int .u64 (x : Int)] 141
theorem getD_end (l : List Nat) (k : Nat) (h : l.length≤k) : l.getD k 0=0 := by
 rw [List.getD_eq_getElem?_getD,List.getElem?_eq_none h]; rfl
theorem mlen : maxLen=9223372036854775807 := by decide
theorem sub_in (a : Option Addr) (len cap : Nat) (l : List Nat) (a' : Option Addr) (len' cap' : Nat) (l' : List Nat) (w : World) (hl : Nums w a len cap l) (hl' : Nums w a' len' cap' l') (hn : Big.Dig l) (hn' : Big.Dig l') (hm : len≤1000000) (hlen : len'≤len) :
 Calls Tryz.prog 75 #[.slice a len cap,.slice a' len' cap'] w fun e w' => (∃ out b cap2,e=.returned (.slice b (Big.trim out).length cap2)∧Nums w' b (Big.trim out).length cap2 (Big.trim out)∧Big.Dig out∧Hid (∃ c,c≤1∧Big.val out + Big.val l'=Big.val l + c * Big.pw len)∧out.length=len)∧Below w.heap.size w w' := by
 have h2 := hl.2.1;have h3 := hl.2.2.1;have h2' := hl'.2.1;have h3' := hl'.2.2.1;have HL := LH9 hl;have HL' := LH9 hl';have HD := LH9 hn;have HD' := LH9 hn';have H1 := LH9 hl.1;have H1' := LH9 hl'.1;have HS := LH9 (fun out i borrow hb hl hinv => Big.sub_step out l l' i borrow hb hn hn' hl hinv);clear hl hl' hn hn'
 go_enter Tryz.func75,Tryz.ntmps75
 go_wp2_with fail
 go_loopw [5,6,7] (fun v c i wr => ∃ (k b : Nat) (out : List Nat),i=.int .i64 (k : Nat)∧c=.int .u64 (b : Nat)∧k≤len∧b≤1∧Hid (Mem.Own w wr 141 1 v k (dv out))∧Hid (out.length=k)∧Hid (Big.Dig out)∧Hid (Big.val out + Big.val (l'.take k)=Big.val (l.take k) + b * Big.pw k)) (fun _ _ i _ => len - (intOf i).toNat)
 case atStart => exact ⟨0,0,[],rfl,rfl,Nat.zero_le _,by omega,Mem.Own.nil (Below.refl _ _),rfl,Big.Dig.nil,by show _=_; simp [Big.val]⟩
 case round =>
  obtain ⟨k,b,out,rfl,rfl,hk,hb,HO,HK,HG,HI⟩ := hrel;have hbel := HO.o.below;by_cases hlt : k < len
  · obtain ⟨bb,o,rfl,hbb,hc⟩ := (HL.o.below hbel).at k hlt;have hx := HD.o.getD k;have HS2 := LH9 (HS.o out k b hb HK.o HI.o);have hD : Hid (Big.Dig (out ++ [(65536 + l.getD k 0 - b - l'.getD k 0) % 65536])) := by
     refine HG.o.append ?_;intro d hd; simp at hd; subst hd; exact Nat.mod_lt _ (by decide)
    have hy := HD'.o.getD k;by_cases hlt' : k < len'
    · obtain ⟨bb',o',rfl,hbb',hc'⟩ := (HL'.o.below hbel).at k hlt';clear HS HD HD';generalize l.getD k 0=x at *;generalize l'.getD k 0=y at *
      go_wp2_with (at_builtin; refine Mem.ap infoU64 Tryz.underlying120 rfl (by decide) rfl (.tmp 32) (.tmp 35) rfl rfl (HO.o.alloc _) ⟨wr.heap.size,0,none⟩ 1 1 (dv [(65536 + x - b - y) % 65536]) rfl rfl (digs_cells _ _ _ (by omega)) (dv_one _) (by rw [mlen]; omega) (by omega) ?_; intro v' w' o' _ _ _; rw [dv_app] at o')
      go_roundw
      case rel => exact ⟨k + 1,1 - (65536 + x - b - y) / 65536,out ++ [(65536 + x - b - y) % 65536],by go_num,by congr 1; omega,by omega,by omega,o',by show _=_; rw [List.length_append,HK.o]; rfl,hD,HS2.o⟩
      case measure => simp [intOf]; omega
    · have e0 := getD_end l' k (by rw [H1'.o]; omega);rw [e0] at HS2 hD;clear HS HD HD' e0 hy;generalize l.getD k 0=x at *
      go_wp2_with (at_builtin; refine Mem.ap infoU64 Tryz.underlying120 rfl (by decide) rfl (.tmp 32) (.tmp 35) rfl rfl (HO.o.alloc _) ⟨wr.heap.size,0,none⟩ 1 1 (dv [(65536 + x - b - 0) % 65536]) rfl rfl (digs_cells _ _ _ (by omega)) (dv_one _) (by rw [mlen]; omega) (by omega) ?_; intro v' w' o' _ _ _; rw [dv_app] at o')
      go_roundw
      case rel => exact ⟨k + 1,1 - (65536 + x - b - 0) / 65536,out ++ [(65536 + x - b - 0) % 65536],by go_num,by congr 1; omega,by omega,by omega,o',by show _=_; rw [List.length_append,HK.o]; rfl,hD,HS2.o⟩
      case measure => simp [intOf]; omega
  · have FIN : Hid (∃ c,c≤1∧Big.val out + Big.val l'=Big.val l + c * Big.pw len) := by
     have : k=len := by omega
     subst this;refine ⟨b,hb,?_⟩;have h := HI.o;rw [List.take_of_length_le (by rw [H1'.o]; exact hlen),List.take_of_length_le (by rw [H1.o]; exact Nat.le_refl _)] at h;exact h
    obtain ⟨ao,co,rfl,hno⟩ := own_nums HO.o HK.o;have HNO := LH9 hno;have hke := LH9 (show k=len by omega);clear hno
    go_wp2_with fail
    refine (trim_any _ _ _ out _ HNO.o).mono ?_; rintro e w' ⟨rfl,rfl⟩
    go_wp2
    go_ret;refine ⟨⟨out,_,_,rfl,?_,HG.o,FIN,by rw [HK.o,hke.o]⟩,hbel⟩;have := HNO.o.take (Big.trim out).length (by rw [← HK.o]; exact trim_le out);rw [← trim_len] at this;exact this
end
section
theorem add_in (a : Option Addr) (len cap : Nat) (l : List Nat) (a' : Option Addr) (len' cap' : Nat) (l' : List Nat) (w : World) (hl : Nums w a len cap l) (hl' : Nums w a' len' cap' l') (hn : Big.Dig l) (hn' : Big.Dig l') (hm : len≤1000000) (hm' : len'≤1000000) :
 Calls Tryz.prog 73 #[.slice a len cap,.slice a' len' cap'] w fun e w' => (∃ out b cap2,e=.returned (.slice b (Big.trim out).length cap2)∧Nums w' b (Big.trim out).length cap2 (Big.trim out)∧Big.Dig out∧Hid (Big.val out=Big.val l + Big.val l')∧out.length≤1000001)∧Below w.heap.size w w' := by
 have h2 := hl.2.1;have h3 := hl.2.2.1;have h2' := hl'.2.1;have h3' := hl'.2.2.1;have HL := LH9 hl;have HL' := LH9 hl';have HD := LH9 hn;have HD' := LH9 hn';have H1 := LH9 hl.1;have H1' := LH9 hl'.1;have HS := LH9 (fun out i carry hl hinv => Big.add_step out l l' i carry hl hinv);clear hl hl' hn hn';obtain ⟨mx,hmx,m1,m2⟩ : ∃ mx,mx≤1000000∧len≤mx∧len'≤mx := ⟨max len len',by omega,by omega,by omega⟩
 go_enter Tryz.func73,Tryz.ntmps73
 go_wp2_with fail
 go_loopw [5,6,7] (fun v c i wr => ∃ (k b : Nat) (out : List Nat),i=.int .i64 (k : Nat)∧c=.int .u64 (b : Nat)∧k≤mx + 1∧b≤1∧(mx < k→b=0)∧Hid (Mem.Own w wr 141 1 v k (dv out))∧Hid (out.length=k)∧Hid (Big.Dig out)∧Hid (Big.val out + b * Big.pw k=Big.val (l.take k) + Big.val (l'.take k))) (fun _ _ i _ => mx + 1 - (intOf i).toNat)
 case atStart => exact ⟨0,0,[],rfl,rfl,Nat.zero_le _,by omega,by omega,Mem.Own.nil (Below.refl _ _),rfl,Big.Dig.nil,by show _=_; simp [Big.val]⟩
 case round =>
  obtain ⟨k,b,out,rfl,rfl,hk,hb,hbk,HO,HK,HG,HI⟩ := hrel;have hbel := HO.o.below;have hx := HD.o.getD k;have hy := HD'.o.getD k;have HS2 := LH9 (HS.o out k b HK.o HI.o);have hD : Hid (Big.Dig (out ++ [(b + l.getD k 0 + l'.getD k 0) % 65536])) := by
   refine HG.o.append ?_;intro d hd; simp at hd; subst hd; exact Nat.mod_lt _ (by decide)
  by_cases hlt : k < len
  · obtain ⟨bb,o,rfl,hbb,hc⟩ := (HL.o.below hbel).at k hlt;by_cases hlt' : k < len'
    · obtain ⟨bb',o',rfl,hbb',hc'⟩ := (HL'.o.below hbel).at k hlt';clear HS HD HD';generalize l.getD k 0=x at *;generalize l'.getD k 0=y at *
      go_wp2_with (at_builtin; refine Mem.ap infoU64 Tryz.underlying120 rfl (by decide) rfl (.tmp 46) (.tmp 49) rfl rfl (HO.o.alloc _) ⟨wr.heap.size,0,none⟩ 1 1 (dv [(b + x + y) % 65536]) rfl rfl (digs_cells _ _ _ (by omega)) (dv_one _) (by rw [mlen]; omega) (by omega) ?_; intro v' w' o' _ _ _; rw [dv_app] at o')
      go_roundw
      case rel => exact ⟨k + 1,(b + x + y) / 65536,out ++ [(b + x + y) % 65536],by go_num,by first | rfl | (congr 1; omega),by omega,by omega,by omega,o',by show _=_; rw [List.length_append,HK.o]; rfl,hD,HS2.o⟩
      case measure => simp [intOf]; omega
    · have e0 := getD_end l' k (by rw [H1'.o]; omega);rw [e0] at HS2 hD;clear HS HD HD' e0 hy;generalize l.getD k 0=x at *
      go_wp2_with (at_builtin; refine Mem.ap infoU64 Tryz.underlying120 rfl (by decide) rfl (.tmp 46) (.tmp 49) rfl rfl (HO.o.alloc _) ⟨wr.heap.size,0,none⟩ 1 1 (dv [(b + x + 0) % 65536]) rfl rfl (digs_cells _ _ _ (by omega)) (dv_one _) (by rw [mlen]; omega) (by omega) ?_; intro v' w' o' _ _ _; rw [dv_app] at o')
      go_roundw
      case rel => exact ⟨k + 1,(b + x + 0) / 65536,out ++ [(b + x + 0) % 65536],by go_num,by first | rfl | (congr 1; omega),by omega,by omega,by omega,o',by show _=_; rw [List.length_append,HK.o]; rfl,hD,HS2.o⟩
      case measure => simp [intOf]; omega
  · have e0 := getD_end l k (by rw [H1.o]; omega);rw [e0] at HS2 hD;clear e0 hx;by_cases hlt' : k < len'
    · obtain ⟨bb',o',rfl,hbb',hc'⟩ := (HL'.o.below hbel).at k hlt';clear HS HD HD';generalize l'.getD k 0=y at *
      go_wp2_with (at_builtin; refine Mem.ap infoU64 Tryz.underlying120 rfl (by decide) rfl (.tmp 46) (.tmp 49) rfl rfl (HO.o.alloc _) ⟨wr.heap.size,0,none⟩ 1 1 (dv [(b + 0 + y) % 65536]) rfl rfl (digs_cells _ _ _ (by omega)) (dv_one _) (by rw [mlen]; omega) (by omega) ?_; intro v' w' o' _ _ _; rw [dv_app] at o')
      go_roundw
      case rel => exact ⟨k + 1,(b + 0 + y) / 65536,out ++ [(b + 0 + y) % 65536],by go_num,by first | rfl | (congr 1; omega),by omega,by omega,by omega,o',by show _=_; rw [List.length_append,HK.o]; rfl,hD,HS2.o⟩
      case measure => simp [intOf]; omega
    · have e0 := getD_end l' k (by rw [H1'.o]; omega);rw [e0] at HS2 hD;clear HS HD HD' e0 hy;by_cases hb1 : b=1
      · subst hb1
        go_wp2_with (at_builtin; refine Mem.ap infoU64 Tryz.underlying120 rfl (by decide) rfl (.tmp 46) (.tmp 49) rfl rfl (HO.o.alloc _) ⟨wr.heap.size,0,none⟩ 1 1 (dv [(1 + 0 + 0) % 65536]) rfl rfl (digs_cells _ _ _ (by omega)) (dv_one _) (by rw [mlen]; omega) (by omega) ?_; intro v' w' o' _ _ _; rw [dv_app] at o')
        go_roundw
        case rel => exact ⟨k + 1,(1 + 0 + 0) / 65536,out ++ [(1 + 0 + 0) % 65536],by go_num,by first | rfl | (congr 1; omega),by omega,by omega,by omega,o',by show _=_; rw [List.length_append,HK.o]; rfl,hD,HS2.o⟩
        case measure => simp [intOf]; omega
      · obtain rfl : b=0 := by omega
        have FIN : Hid (Big.val out=Big.val l + Big.val l') := by
         have h := HI.o;rw [List.take_of_length_le (by rw [H1.o]; omega),List.take_of_length_le (by rw [H1'.o]; omega)] at h;show _=_;omega
        obtain ⟨ao,co,rfl,hno⟩ := own_nums HO.o HK.o;have HNO := LH9 hno;clear hno
        go_wp2_with fail
        refine (trim_any _ _ _ out _ HNO.o).mono ?_; rintro e w' ⟨rfl,rfl⟩
        go_wp2
        go_ret;refine ⟨⟨out,_,_,rfl,?_,HG.o,FIN,by rw [HK.o]; omega⟩,hbel⟩;have := HNO.o.take (Big.trim out).length (by rw [← HK.o]; exact trim_le out);rw [← trim_len] at this;exact this
end
section
def MagR (w : World) (v : Value) (n : Nat) : Prop := ∃ a len cap l,v=.slice a len cap∧Nums w a len cap l∧Big.Norm l∧Big.val l=n
def sg (neg : Bool) (n : Nat) : Int := if neg then -(n : Int) else n
def BigR (w : World) (v : Value) (z : Int) : Prop := ∃ m,v=.agg #[.bool (decide (z < 0)),m]∧MagR w m z.natAbs
theorem MagR.below {w w' : World} {v : Value} {n : Nat} (h : MagR w v n) (hb : Below w.heap.size w w') : MagR w' v n := by
 obtain ⟨a,len,cap,l,rfl,h1,h2,h3⟩ := h;exact ⟨a,len,cap,l,rfl,h1.below hb,h2,h3⟩
theorem BigR.below {w w' : World} {v : Value} {n : Int} (h : BigR w v n) (hb : Below w.heap.size w w') : BigR w' v n := by
 obtain ⟨m,rfl,h1⟩ := h;exact ⟨m,rfl,h1.below hb⟩
theorem MagR.small {w : World} {a : Option Addr} {len cap : Nat} {l : List Nat} {k : Nat} (h : Nums w a len cap l) (hn : Big.Norm l) (hv : Big.val l < Big.pw k) : len≤k := by
 rw [← h.1]; exact hn.length_le hv
theorem MagR.trim {w : World} {b : Option Addr} {cap : Nat} {out : List Nat} (h : Nums w b (Big.trim out).length cap (Big.trim out)) (hd : Big.Dig out) : MagR w (.slice b (Big.trim out).length cap) (Big.val out) :=
 ⟨_,_,_,_,rfl,h,(Big.trim_spec out hd).1,(Big.trim_spec out hd).2.1⟩
theorem add_any (u v : Value) (m n : Nat) (w : World) (hu : MagR w u m) (hv : MagR w v n) (bm : m < Big.pw 1000000) (bn : n < Big.pw 1000000) :
 Calls Tryz.prog 73 #[u,v] w fun e w' => (∃ r,e=.returned r∧MagR w' r (m + n))∧Below w.heap.size w w' := by
 obtain ⟨a,len,cap,l,rfl,h1,h2,rfl⟩ := hu;obtain ⟨a',len',cap',l',rfl,h1',h2',rfl⟩ := hv;refine (add_in a len cap l a' len' cap' l' w h1 h1' h2.1 h2'.1 (MagR.small h1 h2 bm) (MagR.small h1' h2' bn)).mono ?_;rintro e w' ⟨⟨out,b,cap2,rfl,hn,hd,hv,_⟩,hb⟩;exact ⟨⟨_,rfl,by rw [← hv.o]; exact MagR.trim hn hd⟩,hb⟩
theorem sub_any (u v : Value) (m n : Nat) (w : World) (hu : MagR w u m) (hv : MagR w v n) (bm : m < Big.pw 1000000) (hle : n≤m) :
 Calls Tryz.prog 75 #[u,v] w fun e w' => (∃ r,e=.returned r∧MagR w' r (m - n))∧Below w.heap.size w w' := by
 obtain ⟨a,len,cap,l,rfl,h1,h2,rfl⟩ := hu;obtain ⟨a',len',cap',l',rfl,h1',h2',rfl⟩ := hv;have hl : len'≤len := by
  rcases Nat.lt_or_ge len len' with h | h
  · have := h2.length_lt_val h2' (by rw [h1.1,h1'.1]; exact h); omega
  · exact h
 refine (sub_in a len cap l a' len' cap' l' w h1 h1' h2.1 h2'.1 (MagR.small h1 h2 bm) hl).mono ?_;rintro e w' ⟨⟨out,b,cap2,rfl,hn,hd,hv,hlo⟩,hb⟩;refine ⟨⟨_,rfl,?_⟩,hb⟩;have hlt := Big.val_lt hd;obtain ⟨c,hc,hv⟩ := hv.o;rw [hlo] at hlt;have hc0 : c=0 := by
  rcases Nat.eq_zero_or_pos c with h | h
  · exact h
  · have : c=1 := by omega
    subst this; omega
 subst hc0;have e : Big.val out=Big.val l - Big.val l' := by omega
 rw [← e]; exact MagR.trim hn hd
def cmpN (m n : Nat) : Int := if m < n then -1 else if m=n then 0 else 1
theorem cmpm_any (u v : Value) (m n : Nat) (w : World) (hu : MagR w u m) (hv : MagR w v n) :
 Calls Tryz.prog 74 #[u,v] w fun e w' => e=.returned (.int .i64 (cmpN m n))∧Below w.heap.size w w' := by
 obtain ⟨a,len,cap,l,rfl,h1,h2,rfl⟩ := hu;obtain ⟨a',len',cap',l',rfl,h1',h2',rfl⟩ := hv;exact cmp_any a len cap l a' len' cap' l' w h1 h1' h2 h2'
theorem MagR.zero {w : World} {a : Option Addr} {len cap n : Nat} {l : List Nat} (h1 : Nums w a len cap l) (h2 : Big.Norm l) (h3 : Big.val l=n) : len=0 ↔ n=0 := by
 rw [← h3,← h2.nil_iff,← h1.1]; exact List.length_eq_zero_iff
theorem sg_lt (neg : Bool) (n : Nat) : decide (sg neg n < 0)=(neg && decide (0 < n)) := by
 unfold sg; cases neg <;> simp <;> omega
theorem sg_abs (neg : Bool) (n : Nat) : (sg neg n).natAbs=n := by
 unfold sg; cases neg <;> simp
theorem sign_any (neg : Bool) (v : Value) (n : Nat) (w : World) (hv : MagR w v n) :
 Calls Tryz.prog 72 #[.bool neg,v] w fun e w' => (∃ r,e=.returned r∧BigR w' r (sg neg n))∧Below w.heap.size w w' := by
 obtain ⟨a,len,cap,l,rfl,h1,h2,h3⟩ := hv;have hz := MagR.zero h1 h2 h3;have HM := LH9 (show MagR w (.slice a len cap) n from ⟨a,len,cap,l,rfl,h1,h2,h3⟩);have HF := LH9 (fun (b : Bool) (w' : World) (hb : Below w.heap.size w w') (he : decide (sg neg n < 0)=b) =>
  (⟨⟨_,rfl,⟨.slice a len cap,by rw [he],by rw [sg_abs]; exact HM.o.below hb⟩⟩,hb⟩ : (∃ r,Ending.returned (.agg #[.bool b,.slice a len cap])=.returned r∧BigR w' r (sg neg n))∧Below w.heap.size w w'))
 have HE := LH9 (sg_lt neg n);have hl := h1.2.1;have hl2 := h1.2.2.1;clear h1 h2 h3
 cases neg with
 | false =>
   have e0 : Hid (decide (sg false n < 0)=false) := by show _=_; rw [HE.o]; rfl
   clear hz
   go_enter Tryz.func72,Tryz.ntmps72
   go_wp2
   exact bodyPost_ret (v := .agg #[.bool false,.slice a len cap]) (by simp [results,Tryz.results72,go_sem]) rfl (HF.o _ _ ((Below.refl _ _).alloc (Nat.le_refl _) _) e0.o)
 | true =>
   by_cases hp : 0 < n
   · have hlp : 0 < len := by omega
     have e0 : Hid (decide (sg true n < 0)=true) := by show _=_; rw [HE.o]; simp [hp]
     clear hz hp
     go_enter Tryz.func72,Tryz.ntmps72
     go_wp2
     exact bodyPost_ret (v := .agg #[.bool true,.slice a len cap]) (by simp [results,Tryz.results72,go_sem]) rfl (HF.o _ _ ((Below.refl _ _).alloc (Nat.le_refl _) _) e0.o)
   · have hlp : len=0 := by omega
     have e0 : Hid (decide (sg true n < 0)=false) := by show _=_; rw [HE.o]; simp [hp]
     subst hlp;clear hz hp
     go_enter Tryz.func72,Tryz.ntmps72
     go_wp2
     exact bodyPost_ret (v := .agg #[.bool false,.slice a 0 cap]) (by simp [results,Tryz.results72,go_sem]) rfl (HF.o _ _ ((Below.refl _ _).alloc (Nat.le_refl _) _) e0.o)
theorem Nums.put2 {w : World} {a : Option Addr} {len cap g : Nat} {l : List Nat} {t : TypeId} {b0 : Bool} {a0 : Option Addr} {l0 c0 : Nat} {x y : Value} (h : Nums w a len cap l) (hB : Mem.Blk w g t #[.bool b0,.slice a0 l0 c0]) : Nums ((w.setCell ⟨g,0,none⟩ x).setCell ⟨g,1,none⟩ y) a len cap l := by
 obtain ⟨h1,h2,h2',h3⟩ := h;refine ⟨h1,h2,h2',fun hp => ?_⟩;obtain ⟨b,o,ha,hlt,hc⟩ := h3 hp;have hne : b ≠ g := by
  rintro rfl;have e := hc 0 (l.getD 0 0) (by rw [List.getD_eq_getElem?_getD,List.getElem?_eq_getElem (by omega)]; rfl);rw [hB.cell] at e
  match o,e with
  | 0,e => cases e
  | 1,e => cases e
  | k + 2,e => simp at e
 refine ⟨b,o,ha,by simpa [World.setCell] using hlt,fun i v hv => ?_⟩;have e1 : ((w.setCell ⟨g,0,none⟩ x).setCell ⟨g,1,none⟩ y).heap[b]?=w.heap[b]? := by
  rw [Below.heap_setCell _ _ _ _ hne,Below.heap_setCell _ _ _ _ hne]
 rw [World.cell?_of_block (w := w) e1];exact hc i v hv
theorem BigR.put2 {w : World} {r : Value} {z : Int} {g : Nat} {t : TypeId} {b0 : Bool} {a0 : Option Addr} {l0 c0 : Nat} {x y : Value} (h : BigR w r z) (hB : Mem.Blk w g t #[.bool b0,.slice a0 l0 c0]) : BigR ((w.setCell ⟨g,0,none⟩ x).setCell ⟨g,1,none⟩ y) r z := by
 obtain ⟨m,rfl,a,len,cap,l,rfl,h1,h2,h3⟩ := h;exact ⟨_,rfl,a,len,cap,l,rfl,h1.put2 hB,h2,h3⟩
theorem bigr_not (z : Int) : sg (!decide (z < 0)) z.natAbs=-z := by
 unfold sg;by_cases h : z < 0
 · simp [h]; omega
 · simp [h]; omega
theorem minus_any (v : Value) (z : Int) (w : World) (hv : BigR w v z) :
 Calls Tryz.prog 88 #[v] w fun e w' => (∃ r,e=.returned r∧BigR w' r (-z))∧Below w.heap.size w w' := by
 obtain ⟨m,rfl,hm⟩ := hv;have HN := LH9 (bigr_not z);have HM := LH9 hm;obtain ⟨a,len,cap,l,rfl,h1,h2,h3⟩ := hm;clear h1 h2 h3
 go_enter Tryz.func88,Tryz.ntmps88
 go_wp2_with fail
 refine (sign_any _ _ z.natAbs _ (HM.o.below (((Below.refl _ _).alloc (Nat.le_refl _) _).alloc (by simp) _))).mono ?_;rintro e w1 ⟨⟨r,rfl,hr⟩,b1⟩;rw [HN.o] at hr;have bw1 : Below w.heap.size w w1 := (((Below.refl _ _).alloc (Nat.le_refl _) _).alloc (by simp) _).trans (b1.mono (by simp; omega));have B1 := (Mem.Blk.new (w.alloc (.cells #[.bool (decide (z < 0)),.slice a len cap] 122)) 122 #[.bool false,.slice none 0 0]).below b1;have hr2 := hr;obtain ⟨m2,rfl,a2,len2,cap2,l2,rfl,h1,h2,h3⟩ := hr;have HR := LH9 (fun x y => hr2.put2 (x := x) (y := y) B1);clear hr2;obtain ⟨c0,c1,f0,f1⟩ := B1.two;have e1 : (w.alloc (.cells #[.bool (decide (z < 0)),.slice a len cap] 122)).heap.size=w.heap.size + 1 := by simp
 rw [e1] at c0 c1 f0 f1 HR;clear h1 h2 h3 b1 B1
 go_wp2
 refine bodyPost_ret (v := .agg #[.bool (decide (-z < 0)),.slice a2 len2 cap2]) (by simp [results,Tryz.results88,go_sem,c0,c1]) rfl ⟨⟨_,rfl,HR.o _ _⟩,?_⟩;exact (bw1.setCell (by simp) _).setCell (by simp) _
end
end Go.Proofs.YtmiinmndbkdjbaaGreat
