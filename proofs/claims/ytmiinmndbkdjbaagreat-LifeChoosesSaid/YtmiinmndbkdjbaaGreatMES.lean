/- A part of the proof: BgD, BgE, BgF, BgI, BgJ, BgK, BgH, one behind another. -/
import Derived.Test.YtmiinmndbkdjbaaGreatMEA
import Derived.Test.YtmiinmndbkdjbaaGreatMER
import Derived.Deep.RegionHeld3
import Derived.Deep.OwnRows
import Derived.Lib.Hide
import Derived.WalkKit
set_option maxRecDepth 100000
set_option maxHeartbeats 16000000
set_option linter.unusedVariables false
set_option linter.unusedSimpArgs false
namespace Go.Proofs.YtmiinmndbkdjbaaGreat
open Go.RowKit
section
theorem add_in (a : Option Addr) (len cap : Nat) (l : List Nat) (a' : Option Addr) (len' cap' : Nat) (l' : List Nat) (w : World) (hl : Nums w a len cap l) (hl' : Nums w a' len' cap' l') (hn : Big.Dig l) (hn' : Big.Dig l') (hm : len<=1000000) (hm' : len'<=1000000) :
 Calls Tryz.prog 73 #[.slice a len cap,.slice a' len' cap'] w fun e w' => (∃ out b cap2,e=.returned (.slice b (Big.trim out).length cap2)/\Nums w' b (Big.trim out).length cap2 (Big.trim out)/\Big.Dig out/\Hid (Big.val out=Big.val l + Big.val l')/\out.length<=1000001)/\Below w.heap.size w w' := by
 have h2 := hl.2.1;have h3 := hl.2.2.1;have h2' := hl'.2.1;have h3' := hl'.2.2.1;have HL := LH9 hl;have HL' := LH9 hl';have HD := LH9 hn;have HD' := LH9 hn';have H1 := LH9 hl.1;have H1' := LH9 hl'.1;have HS := LH9 (fun out i carry hl hinv => Big.add_step out l l' i carry hl hinv);clear hl hl' hn hn';obtain ⟨mx,hmx,m1,m2⟩ : ∃ mx,mx<=1000000/\len<=mx/\len'<=mx := ⟨max len len',by omega,by omega,by omega⟩
 go_enter Tryz.func73,Tryz.ntmps73
 go_wp2_with fail
 go_loopw [5,6,7] (fun v c i wr => ∃ (k b : Nat) (out : List Nat),i=.int .i64 (k : Nat)/\c=.int .u64 (b : Nat)/\k<=mx + 1/\b<=1/\(mx < k->b=0)/\Hid (Mem.Own w wr 141 1 v k (dv out))/\Hid (out.length=k)/\Hid (Big.Dig out)/\Hid (Big.val out + b * Big.pw k=Big.val (l.take k) + Big.val (l'.take k))) (fun _ _ i _ => mx + 1 - (intOf i).toNat)
 case atStart => exact ⟨0,0,[],rfl,rfl,Nat.zero_le _,by omega,by omega,Mem.Own.nil (Below.refl _ _),rfl,Big.Dig.nil,by show _=_; simp [Big.val]⟩
 case round =>
  obtain ⟨k,b,out,rfl,rfl,hk,hb,hbk,HO,HK,HG,HI⟩ := hrel;have hbel := HO.o.below;have hx := HD.o.getD k;have hy := HD'.o.getD k;have HS2 := LH9 (HS.o out k b HK.o HI.o);have hD : Hid (Big.Dig (out ++ [(b + l.getD k 0 + l'.getD k 0) % 65536])) := by
   refine HG.o.append ?_;intro d hd; simp at hd; subst hd; exact Nat.mod_lt _ (by decide)
  by_cases hlt : k < len
  . obtain ⟨bb,o,rfl,hbb,hc⟩ := (HL.o.below hbel).at k hlt;by_cases hlt' : k < len'
    . obtain ⟨bb',o',rfl,hbb',hc'⟩ := (HL'.o.below hbel).at k hlt';clear HS HD HD';generalize l.getD k 0=x at *;generalize l'.getD k 0=y at *;go_wp2_with (at_builtin; refine Mem.ap infoU64 Tryz.underlying120 rfl (by decide) rfl (.tmp 46) (.tmp 49) rfl rfl (HO.o.alloc _) ⟨wr.heap.size,0,none⟩ 1 1 (dv [(b + x + y) % 65536]) rfl rfl (digs_cells _ _ _ (by omega)) (dv_one _) (by rw [mlen]; omega) (by omega) ?_; intro v' w' o' _ _ _; rw [dv_app] at o');go_roundw
      case rel => exact ⟨k + 1,(b + x + y) / 65536,out ++ [(b + x + y) % 65536],by go_num,by first | rfl | (congr 1; omega),by omega,by omega,by omega,o',by show _=_; rw [List.length_append,HK.o]; rfl,hD,HS2.o⟩
      case measure => simp [intOf]; omega
    . have e0 := getD_end l' k (by rw [H1'.o]; omega);rw [e0] at HS2 hD;clear HS HD HD' e0 hy;generalize l.getD k 0=x at *;go_wp2_with (at_builtin; refine Mem.ap infoU64 Tryz.underlying120 rfl (by decide) rfl (.tmp 46) (.tmp 49) rfl rfl (HO.o.alloc _) ⟨wr.heap.size,0,none⟩ 1 1 (dv [(b + x + 0) % 65536]) rfl rfl (digs_cells _ _ _ (by omega)) (dv_one _) (by rw [mlen]; omega) (by omega) ?_; intro v' w' o' _ _ _; rw [dv_app] at o');go_roundw
      case rel => exact ⟨k + 1,(b + x + 0) / 65536,out ++ [(b + x + 0) % 65536],by go_num,by first | rfl | (congr 1; omega),by omega,by omega,by omega,o',by show _=_; rw [List.length_append,HK.o]; rfl,hD,HS2.o⟩
      case measure => simp [intOf]; omega
  . have e0 := getD_end l k (by rw [H1.o]; omega);rw [e0] at HS2 hD;clear e0 hx;by_cases hlt' : k < len'
    . obtain ⟨bb',o',rfl,hbb',hc'⟩ := (HL'.o.below hbel).at k hlt';clear HS HD HD';generalize l'.getD k 0=y at *;go_wp2_with (at_builtin; refine Mem.ap infoU64 Tryz.underlying120 rfl (by decide) rfl (.tmp 46) (.tmp 49) rfl rfl (HO.o.alloc _) ⟨wr.heap.size,0,none⟩ 1 1 (dv [(b + 0 + y) % 65536]) rfl rfl (digs_cells _ _ _ (by omega)) (dv_one _) (by rw [mlen]; omega) (by omega) ?_; intro v' w' o' _ _ _; rw [dv_app] at o');go_roundw
      case rel => exact ⟨k + 1,(b + 0 + y) / 65536,out ++ [(b + 0 + y) % 65536],by go_num,by first | rfl | (congr 1; omega),by omega,by omega,by omega,o',by show _=_; rw [List.length_append,HK.o]; rfl,hD,HS2.o⟩
      case measure => simp [intOf]; omega
    . have e0 := getD_end l' k (by rw [H1'.o]; omega);rw [e0] at HS2 hD;clear HS HD HD' e0 hy;by_cases hb1 : b=1
      . subst hb1;go_wp2_with (at_builtin; refine Mem.ap infoU64 Tryz.underlying120 rfl (by decide) rfl (.tmp 46) (.tmp 49) rfl rfl (HO.o.alloc _) ⟨wr.heap.size,0,none⟩ 1 1 (dv [(1 + 0 + 0) % 65536]) rfl rfl (digs_cells _ _ _ (by omega)) (dv_one _) (by rw [mlen]; omega) (by omega) ?_; intro v' w' o' _ _ _; rw [dv_app] at o');go_roundw
        case rel => exact ⟨k + 1,(1 + 0 + 0) / 65536,out ++ [(1 + 0 + 0) % 65536],by go_num,by first | rfl | (congr 1; omega),by omega,by omega,by omega,o',by show _=_; rw [List.length_append,HK.o]; rfl,hD,HS2.o⟩
        case measure => simp [intOf]; omega
      . obtain rfl : b=0 := by omega
        have FIN : Hid (Big.val out=Big.val l + Big.val l') := by
         have h := HI.o;rw [List.take_of_length_le (by rw [H1.o]; omega),List.take_of_length_le (by rw [H1'.o]; omega)] at h;show _=_;omega
        obtain ⟨ao,co,rfl,hno⟩ := own_nums HO.o HK.o;have HNO := LH9 hno;clear hno;go_wp2_with fail;refine (trim_any _ _ _ out _ HNO.o).mono ?_; rintro e w' ⟨rfl,rfl⟩
        go_wp2
        go_ret;refine ⟨⟨out,_,_,rfl,?_,HG.o,FIN,by rw [HK.o]; omega⟩,hbel⟩;exact Z7_116
end
section
def MagR (w : World) (v : Value) (n : Nat) : Prop := ∃ a len cap l,v=.slice a len cap/\Nums w a len cap l/\Big.Norm l/\Big.val l=n
def sg (neg : Bool) (n : Nat) : Int := if neg then -(n : Int) else n
def BigR (w : World) (v : Value) (z : Int) : Prop := ∃ m,v=.agg #[.bool (decide (z < 0)),m]/\MagR w m z.natAbs
theorem MagR.below {w w' : World} {v : Value} {n : Nat} (h : MagR w v n) (hb : Below w.heap.size w w') : MagR w' v n := by
 obtain ⟨a,len,cap,l,rfl,h1,h2,h3⟩ := h;exact ⟨a,len,cap,l,rfl,h1.below hb,h2,h3⟩
theorem BigR.below {w w' : World} {v : Value} {n : Int} (h : BigR w v n) (hb : Below w.heap.size w w') : BigR w' v n := by
 obtain ⟨m,rfl,h1⟩ := h;exact ⟨m,rfl,h1.below hb⟩
theorem MagR.small {w : World} {a : Option Addr} {len cap : Nat} {l : List Nat} {k : Nat} (h : Nums w a len cap l) (hn : Big.Norm l) (hv : Big.val l < Big.pw k) : len<=k := by
 rw [<- h.1]; exact hn.length_le hv
theorem MagR.trim {w : World} {b : Option Addr} {cap : Nat} {out : List Nat} (h : Nums w b (Big.trim out).length cap (Big.trim out)) (hd : Big.Dig out) : MagR w (.slice b (Big.trim out).length cap) (Big.val out) :=
 ⟨_,_,_,_,rfl,h,(Big.trim_spec out hd).1,(Big.trim_spec out hd).2.1⟩
theorem add_any (u v : Value) (m n : Nat) (w : World) (hu : MagR w u m) (hv : MagR w v n) (bm : m < Big.pw 1000000) (bn : n < Big.pw 1000000) :
 Calls Tryz.prog 73 #[u,v] w fun e w' => (∃ r,e=.returned r/\MagR w' r (m + n))/\Below w.heap.size w w' := by
 obtain ⟨a,len,cap,l,rfl,h1,h2,rfl⟩ := hu;obtain ⟨a',len',cap',l',rfl,h1',h2',rfl⟩ := hv;refine (add_in a len cap l a' len' cap' l' w h1 h1' h2.1 h2'.1 (MagR.small h1 h2 bm) (MagR.small h1' h2' bn)).mono ?_;rintro e w' ⟨⟨out,b,cap2,rfl,hn,hd,hv,_⟩,hb⟩;exact ⟨⟨_,rfl,by rw [<- hv.o]; exact MagR.trim hn hd⟩,hb⟩
theorem sub_any (u v : Value) (m n : Nat) (w : World) (hu : MagR w u m) (hv : MagR w v n) (bm : m < Big.pw 1000000) (hle : n<=m) :
 Calls Tryz.prog 75 #[u,v] w fun e w' => (∃ r,e=.returned r/\MagR w' r (m - n))/\Below w.heap.size w w' := by
 obtain ⟨a,len,cap,l,rfl,h1,h2,rfl⟩ := hu;obtain ⟨a',len',cap',l',rfl,h1',h2',rfl⟩ := hv;have hl : len'<=len := by
  exact Z7_157
 refine (sub_in a len cap l a' len' cap' l' w h1 h1' h2.1 h2'.1 (MagR.small h1 h2 bm) hl).mono ?_;rintro e w' ⟨⟨out,b,cap2,rfl,hn,hd,hv,hlo⟩,hb⟩;refine ⟨⟨_,rfl,?_⟩,hb⟩;exact Z7_104
def cmpN (m n : Nat) : Int := if m < n then -1 else if m=n then 0 else 1
theorem cmpm_any (u v : Value) (m n : Nat) (w : World) (hu : MagR w u m) (hv : MagR w v n) :
 Calls Tryz.prog 74 #[u,v] w fun e w' => e=.returned (.int .i64 (cmpN m n))/\Below w.heap.size w w' := by
 obtain ⟨a,len,cap,l,rfl,h1,h2,rfl⟩ := hu;obtain ⟨a',len',cap',l',rfl,h1',h2',rfl⟩ := hv;exact cmp_any a len cap l a' len' cap' l' w h1 h1' h2 h2'
theorem MagR.zero {w : World} {a : Option Addr} {len cap n : Nat} {l : List Nat} (h1 : Nums w a len cap l) (h2 : Big.Norm l) (h3 : Big.val l=n) : len=0 ↔ n=0 := by
 rw [<- h3,<- h2.nil_iff,<- h1.1]; exact List.length_eq_zero_iff
theorem sg_lt (neg : Bool) (n : Nat) : decide (sg neg n < 0)=(neg && decide (0 < n)) := by
 unfold sg; cases neg <;> simp <;> omega
theorem sg_abs (neg : Bool) (n : Nat) : (sg neg n).natAbs=n := by
 unfold sg; cases neg <;> simp
theorem sign_any (neg : Bool) (v : Value) (n : Nat) (w : World) (hv : MagR w v n) :
 Calls Tryz.prog 72 #[.bool neg,v] w fun e w' => (∃ r,e=.returned r/\BigR w' r (sg neg n))/\Below w.heap.size w w' := by
 obtain ⟨a,len,cap,l,rfl,h1,h2,h3⟩ := hv;have hz := MagR.zero h1 h2 h3;have HM := LH9 (show MagR w (.slice a len cap) n from ⟨a,len,cap,l,rfl,h1,h2,h3⟩);have HF := LH9 (fun (b : Bool) (w' : World) (hb : Below w.heap.size w w') (he : decide (sg neg n < 0)=b) =>
  (⟨⟨_,rfl,⟨.slice a len cap,by rw [he],by rw [sg_abs]; exact HM.o.below hb⟩⟩,hb⟩ : (∃ r,Ending.returned (.agg #[.bool b,.slice a len cap])=.returned r/\BigR w' r (sg neg n))/\Below w.heap.size w w'))
 have HE := LH9 (sg_lt neg n);have hl := h1.2.1;have hl2 := h1.2.2.1;clear h1 h2 h3
 cases neg with
 | false =>
   have e0 : Hid (decide (sg false n < 0)=false) := by show _=_; rw [HE.o]; rfl
   clear hz
   go_enter Tryz.func72,Tryz.ntmps72
   go_wp2
   exact bodyPost_ret (v := .agg #[.bool false,.slice a len cap]) (by simp [results,Tryz.results72,go_sem]) rfl (HF.o _ _ ((Below.refl _ _).alloc (Nat.le_refl _) _) e0.o)
 | true =>
   by_cases hp : 0 < n
   . have hlp : 0 < len := by omega
     have e0 : Hid (decide (sg true n < 0)=true) := by show _=_; rw [HE.o]; simp [hp]
     clear hz hp
     go_enter Tryz.func72,Tryz.ntmps72
     go_wp2
     exact bodyPost_ret (v := .agg #[.bool true,.slice a len cap]) (by simp [results,Tryz.results72,go_sem]) rfl (HF.o _ _ ((Below.refl _ _).alloc (Nat.le_refl _) _) e0.o)
   . have hlp : len=0 := by omega
     have e0 : Hid (decide (sg true n < 0)=false) := by show _=_; rw [HE.o]; simp [hp]
     subst hlp;clear hz hp
     go_enter Tryz.func72,Tryz.ntmps72
     go_wp2
     exact bodyPost_ret (v := .agg #[.bool false,.slice a 0 cap]) (by simp [results,Tryz.results72,go_sem]) rfl (HF.o _ _ ((Below.refl _ _).alloc (Nat.le_refl _) _) e0.o)
theorem Nums.put2 {w : World} {a : Option Addr} {len cap g : Nat} {l : List Nat} {t : TypeId} {b0 : Bool} {a0 : Option Addr} {l0 c0 : Nat} {x y : Value} (h : Nums w a len cap l) (hB : Mem.Blk w g t #[.bool b0,.slice a0 l0 c0]) : Nums ((w.setCell ⟨g,0,none⟩ x).setCell ⟨g,1,none⟩ y) a len cap l := by
 obtain ⟨h1,h2,h2',h3⟩ := h;refine ⟨h1,h2,h2',fun hp => ?_⟩;obtain ⟨b,o,ha,hlt,hc⟩ := h3 hp;have hne : b ≠ g := by
  rintro rfl;have e := hc 0 (l.getD 0 0) (by rw [List.getD_eq_getElem?_getD,List.getElem?_eq_getElem (by omega)]; rfl);rw [hB.cell] at e
  match o,e with
  | 0,e => cases e
  | 1,e => cases e
  | k + 2,e => simp at e
 refine ⟨b,o,ha,by simpa [World.setCell] using hlt,fun i v hv => ?_⟩;have e1 : ((w.setCell ⟨g,0,none⟩ x).setCell ⟨g,1,none⟩ y).heap[b]?=w.heap[b]? := by
  rw [Below.heap_setCell _ _ _ _ hne,Below.heap_setCell _ _ _ _ hne]
 rw [World.cell?_of_block (w := w) e1];exact hc i v hv
theorem BigR.put2 {w : World} {r : Value} {z : Int} {g : Nat} {t : TypeId} {b0 : Bool} {a0 : Option Addr} {l0 c0 : Nat} {x y : Value} (h : BigR w r z) (hB : Mem.Blk w g t #[.bool b0,.slice a0 l0 c0]) : BigR ((w.setCell ⟨g,0,none⟩ x).setCell ⟨g,1,none⟩ y) r z := by
 obtain ⟨m,rfl,a,len,cap,l,rfl,h1,h2,h3⟩ := h;exact ⟨_,rfl,a,len,cap,l,rfl,h1.put2 hB,h2,h3⟩
theorem bigr_not (z : Int) : sg (!decide (z < 0)) z.natAbs=-z := by
 unfold sg;by_cases h : z < 0
 . simp [h]; omega
 . simp [h]; omega
theorem minus_any (v : Value) (z : Int) (w : World) (hv : BigR w v z) :
 Calls Tryz.prog 88 #[v] w fun e w' => (∃ r,e=.returned r/\BigR w' r (-z))/\Below w.heap.size w w' := by
 obtain ⟨m,rfl,hm⟩ := hv;have HN := LH9 (bigr_not z);have HM := LH9 hm;obtain ⟨a,len,cap,l,rfl,h1,h2,h3⟩ := hm;clear h1 h2 h3
 go_enter Tryz.func88,Tryz.ntmps88
 go_wp2_with fail;refine (sign_any _ _ z.natAbs _ (HM.o.below (((Below.refl _ _).alloc (Nat.le_refl _) _).alloc (by simp) _))).mono ?_;rintro e w1 ⟨⟨r,rfl,hr⟩,b1⟩;rw [HN.o] at hr;have bw1 : Below w.heap.size w w1 := (((Below.refl _ _).alloc (Nat.le_refl _) _).alloc (by simp) _).trans (b1.mono (by simp; omega));have B1 := (Mem.Blk.new (w.alloc (.cells #[.bool (decide (z < 0)),.slice a len cap] 122)) 122 #[.bool false,.slice none 0 0]).below b1;have hr2 := hr;obtain ⟨m2,rfl,a2,len2,cap2,l2,rfl,h1,h2,h3⟩ := hr;have HR := LH9 (fun x y => hr2.put2 (x := x) (y := y) B1);clear hr2;obtain ⟨c0,c1,f0,f1⟩ := B1.two;have e1 : (w.alloc (.cells #[.bool (decide (z < 0)),.slice a len cap] 122)).heap.size=w.heap.size + 1 := by simp
 rw [e1] at c0 c1 f0 f1 HR;clear h1 h2 h3 b1 B1
 go_wp2
 refine bodyPost_ret (v := .agg #[.bool (decide (-z < 0)),.slice a2 len2 cap2]) (by simp [results,Tryz.results88,go_sem,c0,c1]) rfl ⟨⟨_,rfl,HR.o _ _⟩,?_⟩;exact (bw1.setCell (by simp) _).setCell (by simp) _
end
section
theorem three_cells {w w' : World} {x1 y1 x2 y2 x3 y3 : Value} (hb : Below (w.heap.size + 3) (((w.alloc (.cells #[x1,y1] 122)).alloc (.cells #[x2,y2] 122)).alloc (.cells #[x3,y3] 122)) w') :
 w'.cell? ⟨w.heap.size,0,none⟩=some x1/\w'.cell? ⟨w.heap.size,1,none⟩=some y1/\w'.cell? ⟨w.heap.size + 1,0,none⟩=some x2/\w'.cell? ⟨w.heap.size + 1,1,none⟩=some y2/\w'.cell? ⟨w.heap.size + 2,0,none⟩=some x3/\w'.cell? ⟨w.heap.size + 2,1,none⟩=some y3/\w'.frozen? ⟨w.heap.size + 2,0,none⟩=false/\w'.frozen? ⟨w.heap.size + 2,1,none⟩=false := by
 have e1 : (w.alloc (.cells #[x1,y1] 122)).heap.size=w.heap.size + 1 := by simp
 have e2 : ((w.alloc (.cells #[x1,y1] 122)).alloc (.cells #[x2,y2] 122)).heap.size=w.heap.size + 2 := by simp
 have B1 : Mem.Blk w' w.heap.size 122 #[x1,y1] := (((Mem.Blk.new w 122 #[x1,y1]).alloc _).alloc _).call hb (by omega);have B2 : Mem.Blk w' (w.heap.size + 1) 122 #[x2,y2] := by
  have := (Mem.Blk.new (w.alloc (.cells #[x1,y1] 122)) 122 #[x2,y2]).alloc (.cells #[x3,y3] 122);rw [e1] at this; exact this.call hb (by omega)
 have B3 : Mem.Blk w' (w.heap.size + 2) 122 #[x3,y3] := by
  exact Z7_148
 obtain ⟨a1,a2,_,_⟩ := B1.two;obtain ⟨a3,a4,_,_⟩ := B2.two;obtain ⟨a5,a6,a7,a8⟩ := B3.two;exact ⟨a1,a2,a3,a4,a5,a6,a7,a8⟩
theorem three_blk {w w' : World} {x1 y1 x2 y2 x3 y3 : Value} (hb : Below (w.heap.size + 3) (((w.alloc (.cells #[x1,y1] 122)).alloc (.cells #[x2,y2] 122)).alloc (.cells #[x3,y3] 122)) w') : Mem.Blk w' (w.heap.size + 2) 122 #[x3,y3] := by
 have e2 : ((w.alloc (.cells #[x1,y1] 122)).alloc (.cells #[x2,y2] 122)).heap.size=w.heap.size + 2 := by simp
 exact Z7_148
theorem three_bel (w : World) (x1 y1 x2 y2 x3 y3 : Value) : Below w.heap.size w (((w.alloc (.cells #[x1,y1] 122)).alloc (.cells #[x2,y2] 122)).alloc (.cells #[x3,y3] 122)) :=
 (((Below.refl _ _).alloc (Nat.le_refl _) _).alloc (by simp) _).alloc (by simp; omega) _
theorem three_size (w : World) (x1 y1 x2 y2 x3 y3 : Value) : (((w.alloc (.cells #[x1,y1] 122)).alloc (.cells #[x2,y2] 122)).alloc (.cells #[x3,y3] 122)).heap.size=w.heap.size + 3 := by simp
@[irreducible] def Sm (n : Nat) : Prop := n < Big.pw 1000000
theorem Sm.lt {n : Nat} (h : Sm n) : n < Big.pw 1000000 := by unfold Sm at h; exact h
theorem Sm.of {n : Nat} (h : n < Big.pw 1000000) : Sm n := by unfold Sm; exact h
theorem far_cell {w : World} {h g i j : Nat} {u x : Value} (hc : w.cell? ⟨h,i,none⟩=some x) (hne : h ≠ g) : (w.setCell ⟨g,j,none⟩ u).cell? ⟨h,i,none⟩=some x := by
 rw [World.cell?_of_block (w := w) (Below.heap_setCell w ⟨g,j,none⟩ u h hne)]; exact hc
theorem keep4 {w : World} {h : Nat} {a b c d u v : Value} (h1 : w.cell? ⟨h,0,none⟩=some a) (h2 : w.cell? ⟨h,1,none⟩=some b) (h3 : w.cell? ⟨h + 1,0,none⟩=some c) (h4 : w.cell? ⟨h + 1,1,none⟩=some d) :
 ((w.setCell ⟨h + 1 + 1,0,none⟩ u).setCell ⟨h + 1 + 1,1,none⟩ v).cell? ⟨h,0,none⟩=some a/\((w.setCell ⟨h + 1 + 1,0,none⟩ u).setCell ⟨h + 1 + 1,1,none⟩ v).cell? ⟨h,1,none⟩=some b/\((w.setCell ⟨h + 1 + 1,0,none⟩ u).setCell ⟨h + 1 + 1,1,none⟩ v).cell? ⟨h + 1,0,none⟩=some c/\((w.setCell ⟨h + 1 + 1,0,none⟩ u).setCell ⟨h + 1 + 1,1,none⟩ v).cell? ⟨h + 1,1,none⟩=some d :=
 ⟨far_cell (far_cell h1 (by omega)) (by omega),far_cell (far_cell h2 (by omega)) (by omega),far_cell (far_cell h3 (by omega)) (by omega),far_cell (far_cell h4 (by omega)) (by omega)⟩
theorem plus_same (s : Bool) (m m' : Value) (n n' : Nat) (w : World) (hm : MagR w m n) (hm' : MagR w m' n') (bn : Sm n) (bn' : Sm n') :
 Calls Tryz.prog 45 #[.agg #[.bool s,m],.agg #[.bool s,m']] w fun e w' => (∃ r,e=.returned r/\BigR w' r (sg s (n + n')))/\Below w.heap.size w w' := by
 have HM := LH9 hm;have HM' := LH9 hm';have BN := LH9 bn;have BN' := LH9 bn';obtain ⟨a,len,cap,l,rfl,h1,h2,h3⟩ := hm;obtain ⟨a',len',cap',l',rfl,h1',h2',h3'⟩ := hm';clear h1 h2 h3 h1' h2' h3' bn bn';obtain ⟨c1,c2,c3,c4,c5,c6,c7,c8⟩ := three_cells (w := w) (x1 := .bool s) (y1 := .slice a len cap) (x2 := .bool s) (y2 := .slice a' len' cap') (x3 := .bool false) (y3 := .slice none 0 0) (Below.refl _ _);have T := LH9 (three_bel w (.bool s) (.slice a len cap) (.bool s) (.slice a' len' cap') (.bool false) (.slice none 0 0));have TB := LH9 (fun w' hb => three_blk (w := w) (w' := w') (x1 := .bool s) (y1 := .slice a len cap) (x2 := .bool s) (y2 := .slice a' len' cap') (x3 := .bool false) (y3 := .slice none 0 0) hb);have TC := LH9 (fun w' hb => three_cells (w := w) (w' := w') (x1 := .bool s) (y1 := .slice a len cap) (x2 := .bool s) (y2 := .slice a' len' cap') (x3 := .bool false) (y3 := .slice none 0 0) hb);have TS := LH9 (three_size w (.bool s) (.slice a len cap) (.bool s) (.slice a' len' cap') (.bool false) (.slice none 0 0))
 go_enter Tryz.func45,Tryz.ntmps45
 go_wp2_with fail;generalize ((w.alloc (.cells #[.bool s,.slice a len cap] 122)).alloc (.cells #[.bool s,.slice a' len' cap'] 122)).alloc (.cells #[.bool false,.slice none 0 0] 122)=v at *;have K0 := LH9 (Below.refl (w.heap.size + 3) v)
 go_region_held3 (fun w' => w'.cell? ⟨w.heap.size,0,none⟩=some (.bool s)/\w'.cell? ⟨w.heap.size,1,none⟩=some (.slice a len cap)/\w'.cell? ⟨w.heap.size + 1,0,none⟩=some (.bool s)/\w'.cell? ⟨w.heap.size + 1,1,none⟩=some (.slice a' len' cap')) (first | exact keep4 g1 g2 g3 g4 | go_keep)
  (first
   | (go_at_call 73
      refine (add_any _ _ n n' _ (HM.o.below T.o.drew) (HM'.o.below T.o.drew) BN.o.lt BN'.o.lt).mono ?_;rintro e w1 ⟨⟨r,rfl,hr⟩,b1⟩;have k1 : Below (w.heap.size + 3) v w1 := (K0.o.drew).trans (b1.mono (Nat.le_trans (Nat.le_of_eq TS.o.symm) K0.o.size));obtain ⟨d1,d2,d3,d4,d5,d6,d7,d8⟩ := TC.o w1 k1)
   | (go_at_call 72
      refine (sign_any _ _ _ _ hr).mono ?_;rintro e w2 ⟨⟨r2,rfl,hr2⟩,b2⟩;have k2 : Below (w.heap.size + 3) v w2 := k1.trans (b2.mono (Nat.le_trans (Nat.le_of_eq TS.o.symm) k1.size));obtain ⟨g1,g2,g3,g4,g5,g6,g7,g8⟩ := TC.o w2 k2;have hr3 := hr2;obtain ⟨m2,rfl,a2,len2,cap2,l2,rfl,q1,q2,q3⟩ := hr2))
 have HR := LH9 (fun x y => hr3.put2 (x := x) (y := y) (TB.o w2 k2));have BW := LH9 (T.o.trans (k2.mono (by omega)));clear TC TB hr hr3 q1 q2 q3 d1 d2 d3 d4 d5 d6 d7 d8 c1 c2 c3 c4 c5 c6 c7 c8 b1 b2 k1 k2
 go_wp2
 refine bodyPost_ret (v := .agg #[.bool (decide (sg s (n + n') < 0)),.slice a2 len2 cap2]) (by simp [results,Tryz.results45,go_sem,g5,g6]) rfl ⟨⟨_,rfl,HR.o _ _⟩,?_⟩;exact (BW.o.setCell (by simp; omega) _).setCell (by simp; omega) _
theorem plus_ge (s : Bool) (m m' : Value) (n n' : Nat) (w : World) (hm : MagR w m n) (hm' : MagR w m' n') (bn : Sm n) (bn' : Sm n') (hle : n'<=n) :
 Calls Tryz.prog 45 #[.agg #[.bool s,m],.agg #[.bool (!s),m']] w fun e w' => (∃ r,e=.returned r/\BigR w' r (sg s (n - n')))/\Below w.heap.size w w' := by
 have HM := LH9 hm;have HM' := LH9 hm';have BN := LH9 bn;have BN' := LH9 bn';obtain ⟨a,len,cap,l,rfl,h1,h2,h3⟩ := hm;obtain ⟨a',len',cap',l',rfl,h1',h2',h3'⟩ := hm';clear h1 h2 h3 h1' h2' h3' bn bn';obtain ⟨c1,c2,c3,c4,c5,c6,c7,c8⟩ := three_cells (w := w) (x1 := .bool s) (y1 := .slice a len cap) (x2 := .bool (!s)) (y2 := .slice a' len' cap') (x3 := .bool false) (y3 := .slice none 0 0) (Below.refl _ _);have T := LH9 (three_bel w (.bool s) (.slice a len cap) (.bool (!s)) (.slice a' len' cap') (.bool false) (.slice none 0 0));have TB := LH9 (fun w' hb => three_blk (w := w) (w' := w') (x1 := .bool s) (y1 := .slice a len cap) (x2 := .bool (!s)) (y2 := .slice a' len' cap') (x3 := .bool false) (y3 := .slice none 0 0) hb);have TC := LH9 (fun w' hb => three_cells (w := w) (w' := w') (x1 := .bool s) (y1 := .slice a len cap) (x2 := .bool (!s)) (y2 := .slice a' len' cap') (x3 := .bool false) (y3 := .slice none 0 0) hb);have TS := LH9 (three_size w (.bool s) (.slice a len cap) (.bool (!s)) (.slice a' len' cap') (.bool false) (.slice none 0 0));have HLE := LH9 hle;obtain ⟨cv,hcv,hcv0⟩ : ∃ cv,cmpN n n'=cv/\0<=cv := ⟨_,rfl,by unfold cmpN; rw [if_neg (by omega)]; split <;> decide⟩;have HCV := LH9 hcv;clear hcv hle;have hs : (s == !s)=false := by cases s <;> rfl
 go_enter Tryz.func45,Tryz.ntmps45
 go_wp2_with fail;have hv0 : Hid (Below w.heap.size w (((w.alloc (.cells #[.bool s,.slice a len cap] 122)).alloc (.cells #[.bool (!s),.slice a' len' cap'] 122)).alloc (.cells #[.bool false,.slice none 0 0] 122))) := T;generalize ((w.alloc (.cells #[.bool s,.slice a len cap] 122)).alloc (.cells #[.bool (!s),.slice a' len' cap'] 122)).alloc (.cells #[.bool false,.slice none 0 0] 122)=v at *;refine (cmpm_any _ _ n n' _ (HM.o.below T.o) (HM'.o.below T.o)).mono ?_;rintro e w0 ⟨rfl,b0⟩;rw [HCV.o];have K0 : Hid (Below (w.heap.size + 3) v w0) := b0.mono (Nat.le_of_eq TS.o.symm);obtain ⟨p1,p2,p3,p4,p5,p6,p7,p8⟩ := TC.o w0 K0.o;go_wp2_with fail
 go_region_held3 (fun w' => w'.cell? ⟨w.heap.size,0,none⟩=some (.bool s)/\w'.cell? ⟨w.heap.size,1,none⟩=some (.slice a len cap)/\w'.cell? ⟨w.heap.size + 1,0,none⟩=some (.bool (!s))/\w'.cell? ⟨w.heap.size + 1,1,none⟩=some (.slice a' len' cap')) (first | exact keep4 g1 g2 g3 g4 | go_keep)
  (first
   | (go_at_call 75
      refine (sub_any _ _ n n' _ (HM.o.below (T.o.trans (K0.o.mono (by omega))).drew) (HM'.o.below (T.o.trans (K0.o.mono (by omega))).drew) BN.o.lt HLE.o).mono ?_;rintro e w1 ⟨⟨r,rfl,hr⟩,b1⟩;have k1 : Below (w.heap.size + 3) v w1 := (K0.o.drew).trans (b1.mono (Nat.le_trans (Nat.le_of_eq TS.o.symm) K0.o.size));obtain ⟨d1,d2,d3,d4,d5,d6,d7,d8⟩ := TC.o w1 k1)
   | (go_at_call 72
      refine (sign_any _ _ _ _ hr).mono ?_;rintro e w2 ⟨⟨r2,rfl,hr2⟩,b2⟩;have k2 : Below (w.heap.size + 3) v w2 := k1.trans (b2.mono (Nat.le_trans (Nat.le_of_eq TS.o.symm) k1.size));obtain ⟨g1,g2,g3,g4,g5,g6,g7,g8⟩ := TC.o w2 k2;have hr3 := hr2;obtain ⟨m2,rfl,a2,len2,cap2,l2,rfl,q1,q2,q3⟩ := hr2))
 have HR := LH9 (fun x y => hr3.put2 (x := x) (y := y) (TB.o w2 k2));have BW := LH9 (T.o.trans (k2.mono (by omega)));clear TC TB hr hr3 q1 q2 q3 d1 d2 d3 d4 d5 d6 d7 d8 c1 c2 c3 c4 c5 c6 c7 c8 b1 b2 k1 k2
 go_wp2
 refine bodyPost_ret (v := .agg #[.bool (decide (sg s (n - n') < 0)),.slice a2 len2 cap2]) (by simp [results,Tryz.results45,go_sem,g5,g6]) rfl ⟨⟨_,rfl,HR.o _ _⟩,?_⟩;exact (BW.o.setCell (by simp; omega) _).setCell (by simp; omega) _
theorem plus_lt (s : Bool) (m m' : Value) (n n' : Nat) (w : World) (hm : MagR w m n) (hm' : MagR w m' n') (bn : Sm n) (bn' : Sm n') (hle : n < n') :
 Calls Tryz.prog 45 #[.agg #[.bool s,m],.agg #[.bool (!s),m']] w fun e w' => (∃ r,e=.returned r/\BigR w' r (sg (!s) (n' - n)))/\Below w.heap.size w w' := by
 have HM := LH9 hm;have HM' := LH9 hm';have BN := LH9 bn;have BN' := LH9 bn';obtain ⟨a,len,cap,l,rfl,h1,h2,h3⟩ := hm;obtain ⟨a',len',cap',l',rfl,h1',h2',h3'⟩ := hm';clear h1 h2 h3 h1' h2' h3' bn bn';obtain ⟨c1,c2,c3,c4,c5,c6,c7,c8⟩ := three_cells (w := w) (x1 := .bool s) (y1 := .slice a len cap) (x2 := .bool (!s)) (y2 := .slice a' len' cap') (x3 := .bool false) (y3 := .slice none 0 0) (Below.refl _ _);have T := LH9 (three_bel w (.bool s) (.slice a len cap) (.bool (!s)) (.slice a' len' cap') (.bool false) (.slice none 0 0));have TB := LH9 (fun w' hb => three_blk (w := w) (w' := w') (x1 := .bool s) (y1 := .slice a len cap) (x2 := .bool (!s)) (y2 := .slice a' len' cap') (x3 := .bool false) (y3 := .slice none 0 0) hb);have TC := LH9 (fun w' hb => three_cells (w := w) (w' := w') (x1 := .bool s) (y1 := .slice a len cap) (x2 := .bool (!s)) (y2 := .slice a' len' cap') (x3 := .bool false) (y3 := .slice none 0 0) hb);have TS := LH9 (three_size w (.bool s) (.slice a len cap) (.bool (!s)) (.slice a' len' cap') (.bool false) (.slice none 0 0));have HLE := LH9 hle;obtain ⟨cv,hcv,hcv0⟩ : ∃ cv,cmpN n n'=cv/\cv < 0 := ⟨_,rfl,by unfold cmpN; rw [if_pos hle]; decide⟩;have HCV := LH9 hcv;clear hcv hle;have hs : (s == !s)=false := by cases s <;> rfl
 go_enter Tryz.func45,Tryz.ntmps45
 go_wp2_with fail;have hv0 : Hid (Below w.heap.size w (((w.alloc (.cells #[.bool s,.slice a len cap] 122)).alloc (.cells #[.bool (!s),.slice a' len' cap'] 122)).alloc (.cells #[.bool false,.slice none 0 0] 122))) := T;generalize ((w.alloc (.cells #[.bool s,.slice a len cap] 122)).alloc (.cells #[.bool (!s),.slice a' len' cap'] 122)).alloc (.cells #[.bool false,.slice none 0 0] 122)=v at *;refine (cmpm_any _ _ n n' _ (HM.o.below T.o) (HM'.o.below T.o)).mono ?_;rintro e w0 ⟨rfl,b0⟩;rw [HCV.o];have K0 : Hid (Below (w.heap.size + 3) v w0) := b0.mono (Nat.le_of_eq TS.o.symm);obtain ⟨p1,p2,p3,p4,p5,p6,p7,p8⟩ := TC.o w0 K0.o;go_wp2_with fail
 go_region_held3 (fun w' => w'.cell? ⟨w.heap.size,0,none⟩=some (.bool s)/\w'.cell? ⟨w.heap.size,1,none⟩=some (.slice a len cap)/\w'.cell? ⟨w.heap.size + 1,0,none⟩=some (.bool (!s))/\w'.cell? ⟨w.heap.size + 1,1,none⟩=some (.slice a' len' cap')) (first | exact keep4 g1 g2 g3 g4 | go_keep)
  (first
   | (go_at_call 75
      refine (sub_any _ _ n' n _ (HM'.o.below (T.o.trans (K0.o.mono (by omega))).drew) (HM.o.below (T.o.trans (K0.o.mono (by omega))).drew) BN'.o.lt (Nat.le_of_lt HLE.o)).mono ?_;rintro e w1 ⟨⟨r,rfl,hr⟩,b1⟩;have k1 : Below (w.heap.size + 3) v w1 := (K0.o.drew).trans (b1.mono (Nat.le_trans (Nat.le_of_eq TS.o.symm) K0.o.size));obtain ⟨d1,d2,d3,d4,d5,d6,d7,d8⟩ := TC.o w1 k1)
   | (go_at_call 72
      refine (sign_any _ _ _ _ hr).mono ?_;rintro e w2 ⟨⟨r2,rfl,hr2⟩,b2⟩;have k2 : Below (w.heap.size + 3) v w2 := k1.trans (b2.mono (Nat.le_trans (Nat.le_of_eq TS.o.symm) k1.size));obtain ⟨g1,g2,g3,g4,g5,g6,g7,g8⟩ := TC.o w2 k2;have hr3 := hr2;obtain ⟨m2,rfl,a2,len2,cap2,l2,rfl,q1,q2,q3⟩ := hr2))
 have HR := LH9 (fun x y => hr3.put2 (x := x) (y := y) (TB.o w2 k2));have BW := LH9 (T.o.trans (k2.mono (by omega)));clear TC TB hr hr3 q1 q2 q3 d1 d2 d3 d4 d5 d6 d7 d8 c1 c2 c3 c4 c5 c6 c7 c8 b1 b2 k1 k2
 go_wp2
 refine bodyPost_ret (v := .agg #[.bool (decide (sg (!s) (n' - n) < 0)),.slice a2 len2 cap2]) (by simp [results,Tryz.results45,go_sem,g5,g6]) rfl ⟨⟨_,rfl,HR.o _ _⟩,?_⟩;exact (BW.o.setCell (by simp; omega) _).setCell (by simp; omega) _
theorem big_add_same (z z' : Int) (h : decide (z < 0)=decide (z' < 0)) : sg (decide (z < 0)) (z.natAbs + z'.natAbs)=z + z' := by
 unfold sg;by_cases h1 : z < 0 <;> by_cases h2 : z' < 0 <;> simp [h1,h2] at h ⊢ <;> omega
theorem big_add_ge (z z' : Int) (h : decide (z' < 0)=!decide (z < 0)) (hle : z'.natAbs<=z.natAbs) : sg (decide (z < 0)) (z.natAbs - z'.natAbs)=z + z' := by
 unfold sg;by_cases h1 : z < 0 <;> by_cases h2 : z' < 0 <;> simp [h1,h2] at h ⊢ <;> omega
theorem big_add_lt (z z' : Int) (h : decide (z' < 0)=!decide (z < 0)) (hle : z.natAbs < z'.natAbs) : sg (!decide (z < 0)) (z'.natAbs - z.natAbs)=z + z' := by
 unfold sg;by_cases h1 : z < 0 <;> by_cases h2 : z' < 0 <;> simp [h1,h2] at h ⊢ <;> omega
theorem plus_any (u v : Value) (z z' : Int) (w : World) (hu : BigR w u z) (hv : BigR w v z') (bn : Sm z.natAbs) (bn' : Sm z'.natAbs) :
 Calls Tryz.prog 45 #[u,v] w fun e w' => (∃ r,e=.returned r/\BigR w' r (z + z'))/\Below w.heap.size w w' := by
 obtain ⟨m,rfl,hm⟩ := hu;obtain ⟨m',rfl,hm'⟩ := hv;have BN := LH9 bn;have BN' := LH9 bn';clear bn bn';by_cases h : decide (z < 0)=decide (z' < 0)
 . have := plus_same (decide (z < 0)) m m' _ _ w hm hm' BN.o BN'.o;rw [big_add_same z z' h] at this;rw [<- h]; exact this
 . have h2 : decide (z' < 0)=!decide (z < 0) := by
    revert h
    cases decide (z < 0) <;> cases decide (z' < 0) <;> simp
   by_cases hle : z'.natAbs<=z.natAbs
   . have := plus_ge (decide (z < 0)) m m' _ _ w hm hm' BN.o BN'.o hle;rw [big_add_ge z z' h2 hle] at this;rw [h2]; exact this
   . have := plus_lt (decide (z < 0)) m m' _ _ w hm hm' BN.o BN'.o (by omega);rw [big_add_lt z z' h2 (by omega)] at this;rw [h2]; exact this
end
section
theorem own_nums2 {w0 w : World} {v : Value} {n : Nat} {l : List Nat} (h : Mem.Own w0 w 141 1 v n (dv l)) (hn : l.length=n) : ∃ a cap,v=.slice a n cap/\Nums w a n cap l/\∀ x,a=some x->w0.heap.size<=x.block := by
 have hmx : maxLen=9223372036854775807 := by decide
 rcases h.own.2 with ⟨rfl,rfl⟩ | ⟨g,cap,cur,rfl,h1,h2,h3,h4,h5,h6⟩
 . exact ⟨none,0,rfl,⟨hn,by omega,by omega,fun h => absurd h (by omega)⟩,fun x hx => by cases hx⟩
 . refine ⟨_,cap,rfl,⟨hn,h3,by omega,fun hp => ⟨g,0,rfl,lt_of_block h2,fun i x hx => ?_⟩⟩,fun x hx => by cases hx; exact h1⟩;have hi : i < l.length := (List.getElem?_eq_some_iff.1 hx).1;rw [Nat.zero_add,h.cell i (by omega)];simp [dv,hx]
theorem sub_fresh (a : Option Addr) (len cap : Nat) (l : List Nat) (a' : Option Addr) (len' cap' : Nat) (l' : List Nat) (w : World) (hl : Nums w a len cap l) (hl' : Nums w a' len' cap' l') (hn : Big.Dig l) (hn' : Big.Dig l') (hm : len<=1000000) (hlen : len'<=len) :
 Calls Tryz.prog 75 #[.slice a len cap,.slice a' len' cap'] w fun e w' => (∃ out b cap2,e=.returned (.slice b (Big.trim out).length cap2)/\Nums w' b (Big.trim out).length cap2 (Big.trim out)/\Big.Dig out/\Hid (∃ c,c<=1/\Big.val out + Big.val l'=Big.val l + c * Big.pw len)/\out.length=len/\(∀ x,b=some x->w.heap.size<=x.block))/\Below w.heap.size w w' := by
 have h2 := hl.2.1;have h3 := hl.2.2.1;have h2' := hl'.2.1;have h3' := hl'.2.2.1;have HL := LH9 hl;have HL' := LH9 hl';have HD := LH9 hn;have HD' := LH9 hn';have H1 := LH9 hl.1;have H1' := LH9 hl'.1;have HS := LH9 (fun out i borrow hb hl hinv => Big.sub_step out l l' i borrow hb hn hn' hl hinv);clear hl hl' hn hn'
 go_enter Tryz.func75,Tryz.ntmps75
 go_wp2_with fail
 go_loopw [5,6,7] (fun v c i wr => ∃ (k b : Nat) (out : List Nat),i=.int .i64 (k : Nat)/\c=.int .u64 (b : Nat)/\k<=len/\b<=1/\Hid (Mem.Own w wr 141 1 v k (dv out))/\Hid (out.length=k)/\Hid (Big.Dig out)/\Hid (Big.val out + Big.val (l'.take k)=Big.val (l.take k) + b * Big.pw k)) (fun _ _ i _ => len - (intOf i).toNat)
 case atStart => exact ⟨0,0,[],rfl,rfl,Nat.zero_le _,by omega,Mem.Own.nil (Below.refl _ _),rfl,Big.Dig.nil,by show _=_; simp [Big.val]⟩
 case round =>
  obtain ⟨k,b,out,rfl,rfl,hk,hb,HO,HK,HG,HI⟩ := hrel;have hbel := HO.o.below;by_cases hlt : k < len
  . exact Z7_45
  . have FIN : Hid (∃ c,c<=1/\Big.val out + Big.val l'=Big.val l + c * Big.pw len) := by
     exact Z7_128
    obtain ⟨ao,co,rfl,hno,hfr⟩ := own_nums2 HO.o HK.o;have HFR := LH9 hfr;clear hfr;have HNO := LH9 hno;have hke := LH9 (show k=len by omega);clear hno;go_wp2_with fail;refine (trim_any _ _ _ out _ HNO.o).mono ?_; rintro e w' ⟨rfl,rfl⟩
    go_wp2
    go_ret;refine ⟨⟨out,_,_,rfl,?_,HG.o,FIN,by rw [HK.o,hke.o],HFR.o⟩,hbel⟩;exact Z7_116
end
section
theorem subf_any (u v : Value) (m n : Nat) (w : World) (hu : MagR w u m) (hv : MagR w v n) (bm : m < Big.pw 1000000) (hle : n<=m) :
 Calls Tryz.prog 75 #[u,v] w fun e w' => (∃ b len cap,e=.returned (.slice b len cap)/\MagR w' (.slice b len cap) (m - n)/\∀ x,b=some x->w.heap.size<=x.block)/\Below w.heap.size w w' := by
 obtain ⟨a,len,cap,l,rfl,h1,h2,rfl⟩ := hu;obtain ⟨a',len',cap',l',rfl,h1',h2',rfl⟩ := hv;have hl : len'<=len := by
  exact Z7_157
 refine (sub_fresh a len cap l a' len' cap' l' w h1 h1' h2.1 h2'.1 (MagR.small h1 h2 bm) hl).mono ?_;rintro e w' ⟨⟨out,b,cap2,rfl,hn,hd,hv,hlo,hfr⟩,hb⟩;refine ⟨⟨_,_,_,rfl,?_,hfr⟩,hb⟩;exact Z7_104
theorem Nums.far {w : World} {a : Option Addr} {len cap g j : Nat} {l : List Nat} {u : Value} (h : Nums w a len cap l) (hne : ∀ x,a=some x->x.block ≠ g) : Nums (w.setCell ⟨g,j,none⟩ u) a len cap l := by
 obtain ⟨h1,h2,h2',h3⟩ := h;refine ⟨h1,h2,h2',fun hp => ?_⟩;obtain ⟨b,o,ha,hlt,hc⟩ := h3 hp;refine ⟨b,o,ha,by simpa [World.setCell] using hlt,fun i v hv => ?_⟩;rw [World.cell?_of_block (w := w) (Below.heap_setCell w ⟨g,j,none⟩ u b (hne _ ha))];exact hc i v hv
theorem dv_set (q : List Nat) (j n : Nat) (z : Int) (hz : z=(n : Int)) : (dv q).toArray.setIfInBounds j (.int .u64 z)=(dv (q.set j n)).toArray := by
 subst hz; simp [dv,List.map_set]
end
section
theorem mk_eq (n : Nat) : madeCells #[.int .u64 0] n=(dv (List.replicate n 0)).toArray := by
 apply Array.ext
 . simp [madeCells,dv]
 . intro i h1 h2;simp [madeCells,dv,Nat.mod_one]
theorem pw_two (n : Nat) : Big.pw n=2 ^ (16 * n) := by
 unfold Big.pw; rw [show (65536 : Nat)=2 ^ 16 from rfl,<- Nat.pow_mul]
theorem sm_of (n K : Nat) (hK : K < 1000000) (h : n < 2 * Big.pw K) : Sm n := by
 refine Sm.of (Nat.lt_of_lt_of_le h ?_);refine Nat.le_trans ?_ (Big.pw_mono (show K + 1<=1000000 by omega));rw [Big.pw_succ]; exact Nat.mul_le_mul_right _ (by decide)
@[irreducible] def Md (n : Nat) : Prop := n < Big.pw 900
theorem Md.lt {n : Nat} (h : Md n) : n < Big.pw 900 := by unfold Md at h; exact h
theorem Md.of {n : Nat} (h : n < Big.pw 900) : Md n := by unfold Md; exact h
theorem div_any (u v : Value) (A B : Nat) (w : World) (hu : MagR w u A) (hv : MagR w v B) (hB : 0 < B) (hA : Md A) (hBB : Md B) :
 Calls Tryz.prog 134 #[u,v] w fun e w' => (∃ q r,e=.returned (.tuple #[q,r])/\MagR w' q (A / B)/\MagR w' r (A % B))/\Below w.heap.size w w' := by
 have HV := LH9 hv;have HU := LH9 hu;obtain ⟨a,len,cap,l,rfl,h1,h2,h3⟩ := hu;obtain ⟨a',len',cap',l',rfl,h1',h2',h3'⟩ := hv;have hl : len<=900 := MagR.small h1 h2 (by rw [h3]; exact hA.lt);have HL := LH9 h1;have HN := LH9 h2;have HX := LH9 h3;have HBB := LH9 hBB;have hc := h1.2.1;have hc2 := h1.2.2.1;clear h1 h2 h3 h1' h2' h3' hA hBB;have hmk : ∀ w,(Instr.makeSlice 120 (.int .i64 (len : Int)) (.int .i64 (len : Int))).run Tryz.prog w=.ok (.slice (some ⟨w.heap.size,0,none⟩) len len) (w.alloc (.cells (dv (List.replicate len 0)).toArray 141)) := by
  intro w; rw [<- mk_eq]; exact run_make_row' 120 141 (.int .u64 0) 8 Tryz.underlying120 infoU64 rfl _ _ len (by omega) (by omega) w
 have ST : Hid (A / 2 ^ (16 * len)=0) := by
  show _=_;rw [<- pw_two];have h := Big.val_lt HN.o.1;rw [HX.o,HL.o.1] at h;exact Nat.div_eq_of_lt h
 go_enter Tryz.func134,Tryz.ntmps134
 go_wp2_with fail
 go_loopw [7,8] (fun lv i wr => ∃ (k : Nat) (q : List Nat),i=.int .i64 ((k : Int) - 1)/\k<=16 * len/\Hid (MagR wr lv (A / 2 ^ k % B))/\Hid (Below w.heap.size w wr)/\Hid (Mem.Blk wr w.heap.size 141 (dv q).toArray)/\Hid (q.length=len)/\Hid (Big.Bits q k)/\Hid (Big.val q=A / 2 ^ k / B * 2 ^ k)) (fun _ i _ => (intOf i + 1).toNat)
 case atStart =>
  refine ⟨16 * len,List.replicate len 0,by go_num,Nat.le_refl _,⟨none,0,0,[],rfl,⟨rfl,Nat.le_refl _,by decide,fun h => absurd h (by decide)⟩,Big.Norm.nil,?_⟩,(Below.refl _ _).alloc (Nat.le_refl _) _,Mem.Blk.new _ _ _,by show _=_; simp,Big.Bits.start _ _,?_⟩
  . rw [ST.o]; simp [Big.val]
  . show _=_; rw [ST.o,Big.val_zero]; simp
 case round =>
  obtain ⟨k,q,rfl,hk,HM,HW,HQ,HQL,HB,HVQ⟩ := hrel
  cases k with
  | zero =>
    obtain ⟨al,ll,cl,dl,rfl,m1,m2,m3⟩ := HM.o;have hqn : Nums wr (some ⟨w.heap.size,0,none⟩) len len q := by
     refine ⟨HQL.o,Nat.le_refl _,by omega,fun hp => ⟨w.heap.size,0,rfl,HQ.o.lt,fun i x hx => ?_⟩⟩;rw [HQ.o.cell,Nat.zero_add]; simp [dv,hx]
    have HQN := LH9 hqn;have hmt := hqn.take (Big.trim q).length (by rw [<- HQL.o]; exact trim_le q);rw [<- trim_len] at hmt;have FQ : Hid (MagR wr (.slice (some ⟨w.heap.size,0,none⟩) (Big.trim q).length len) (A / B)) := by
     have h := MagR.trim hmt HB.o.1;rw [HVQ.o] at h;show MagR _ _ _
     simpa using h
    have FR : Hid (MagR wr (.slice al ll cl) (A % B)) := by
     have h := HM.o;show MagR _ _ _
     simpa using h
    clear hmt hqn m1 m2 m3;go_wp2_with fail;refine (trim_any _ _ _ q _ HQN.o).mono ?_; rintro e w' ⟨rfl,rfl⟩
    go_wp2
    go_ret2;exact ⟨⟨_,_,rfl,FQ.o,FR.o⟩,HW.o⟩
  | succ i =>
    have hbl : A / 2 ^ (i + 1) % B < Big.pw 1000000 := Nat.lt_of_lt_of_le (Nat.lt_trans (Nat.mod_lt _ hB) HBB.o.lt) (Big.pw_mono (by omega));have HBL := Sm.of hbl;clear hbl;have HB2 : Sm (A / 2 ^ (i + 1) % B + A / 2 ^ (i + 1) % B) := by
     refine sm_of _ 900 (by omega) ?_;have h1 := Nat.mod_lt (A / 2 ^ (i + 1)) hB;have h2 := HBB.o.lt;generalize Big.pw 900=p at *;omega
    have SL2 : Hid (Sm (2 * (A / 2 ^ (i + 1) % B) + A / 2 ^ i % 2)) := by
     refine sm_of _ 900 (by omega) ?_;have h1 := Nat.mod_lt (A / 2 ^ (i + 1)) hB;have h2 := HBB.o.lt;have h3 := Nat.mod_lt (A / 2 ^ i) (show 0 < 2 by decide);generalize Big.pw 900=p at *;omega
    have HB3 : Sm 1 := Sm.of (Nat.lt_of_lt_of_le (show 1 < Big.pw 1 by decide) (Big.pw_mono (by decide)));go_wp2_with fail;refine (add_any _ _ _ _ _ HM.o HM.o HBL.lt HBL.lt).mono ?_;rintro e w1 ⟨⟨r,rfl,hr⟩,b1⟩;have hw1 : Below w.heap.size w w1 := HW.o.trans (b1.mono HW.o.size);have HQ1 := LH9 (HQ.o.below b1);obtain ⟨b,o,rfl,hbb,hcell⟩ := (HL.o.below hw1).at (i / 16) (by omega);have HVB := LH9 (Big.val_bit l i HN.o.1);rw [HX.o] at HVB;generalize l.getD (i / 16) 0=x at *;have DS : Hid ((B<=2 * (A / 2 ^ (i + 1) % B) + A / 2 ^ i % 2->2 * (A / 2 ^ (i + 1) % B) + A / 2 ^ i % 2 - B=A / 2 ^ i % B/\Big.val q + 2 ^ i=A / 2 ^ i / B * 2 ^ i)/\(2 * (A / 2 ^ (i + 1) % B) + A / 2 ^ i % 2 < B->2 * (A / 2 ^ (i + 1) % B) + A / 2 ^ i % 2=A / 2 ^ i % B/\Big.val q=A / 2 ^ i / B * 2 ^ i)) := (Big.div_step A B i hB (A / 2 ^ (i + 1) % B) (Big.val q) rfl HVQ.o);have TAIL : Hid (∀ (l2 : Nat) (r2 : Value) (w2 : World),l2=2 * (A / 2 ^ (i + 1) % B) + A / 2 ^ i % 2->MagR w2 r2 l2->Below w1.heap.size w1 w2->True) := fun _ _ _ _ _ _ => trivial
    have EX : (x : Int) / 2 ^ (i % 16)=((x / 2 ^ (i % 16) : Nat) : Int) := by simp
    by_cases hb1 : x / 2 ^ (i % 16) % 2=1
    . have hbi : (((x : Int) / 2 ^ (i % 16)).tmod 2 == 1)=true := by
       rw [EX,Int.tmod_eq_emod_of_nonneg (Int.natCast_nonneg _)]; generalize x / 2 ^ (i % 16)=t at hb1 ⊢; simp only [beq_iff_eq]; omega
      have HB1 : Hid (A / 2 ^ i % 2=1) := by show _=_; rw [HVB.o]; exact hb1
      clear hb1 EX;go_wp2_with fail;have a1 : Below w1.heap.size w1 (w1.alloc (.cells #[.int .u64 1] 141)) := (Below.refl _ _).alloc (Nat.le_refl _) _;have h1m : MagR (w1.alloc (.cells #[.int .u64 1] 141)) (.slice (some ⟨w1.heap.size,0,none⟩) 1 1) 1 := by
       refine ⟨_,_,_,[1],rfl,⟨rfl,Nat.le_refl _,by decide,fun _ => ⟨w1.heap.size,0,rfl,by simp,fun j y hy => ?_⟩⟩,⟨by intro d hd; simp at hd; omega,by intro d hd; simp at hd; omega⟩,rfl⟩;have := (Mem.Blk.new w1 141 #[.int .u64 1]).cell (0 + j);rw [this,Nat.zero_add]
       match j,hy with
       | 0,hy => simp at hy; subst hy; rfl
       | k + 1,hy => simp at hy
      refine (add_any _ _ _ 1 _ (hr.below a1) h1m HB2.lt HB3.lt).mono ?_;rintro e w2 ⟨⟨r2,rfl,hr2⟩,b2⟩;have HR2 : Hid (MagR w2 r2 (2 * (A / 2 ^ (i + 1) % B) + A / 2 ^ i % 2)) := by
       show MagR _ _ _;rw [HB1.o,show 2 * (A / 2 ^ (i + 1) % B) + 1=A / 2 ^ (i + 1) % B + A / 2 ^ (i + 1) % B + 1 by omega]; exact hr2
      have b12 : Below w1.heap.size w1 w2 := a1.trans (b2.mono a1.size);go_wp2_with fail;have B12 := b12;have HWW : Hid (Below w.heap.size w w2) := hw1.trans (B12.mono hw1.size);exact Z7_27
    . have hbi : (((x : Int) / 2 ^ (i % 16)).tmod 2 == 1)=false := by
       rw [EX,Int.tmod_eq_emod_of_nonneg (Int.natCast_nonneg _)]; generalize x / 2 ^ (i % 16)=t at hb1 ⊢; simp only [beq_eq_false_iff_ne]; omega
      have HB1 := LH9 hb1;clear hb1 EX;have HB0 : Hid (A / 2 ^ i % 2=0) := by show _=_; have := HB1.o; rw [HVB.o]; omega
      have HR2 : Hid (MagR w1 r (2 * (A / 2 ^ (i + 1) % B) + A / 2 ^ i % 2)) := by
       show MagR _ _ _;rw [HB0.o,show 2 * (A / 2 ^ (i + 1) % B) + 0=A / 2 ^ (i + 1) % B + A / 2 ^ (i + 1) % B by omega]; exact hr
      have B12 : Below w1.heap.size w1 w1 := Below.refl _ _;go_wp2_with fail;have HWW : Hid (Below w.heap.size w w1) := hw1.trans (B12.mono hw1.size);exact Z7_27
end
section
theorem two_cells64 {w w' : World} {x1 y1 x2 y2 : Value} (hb : Below (w.heap.size + 2) ((w.alloc (.cells #[x1,y1] 122)).alloc (.cells #[x2,y2] 122)) w') :
 w'.cell? ⟨w.heap.size,0,none⟩=some x1/\w'.cell? ⟨w.heap.size,1,none⟩=some y1/\w'.cell? ⟨w.heap.size + 1,0,none⟩=some x2/\w'.cell? ⟨w.heap.size + 1,1,none⟩=some y2 := by
 have e1 : (w.alloc (.cells #[x1,y1] 122)).heap.size=w.heap.size + 1 := by simp
 have B1 : Mem.Blk w' w.heap.size 122 #[x1,y1] := (((Mem.Blk.new w 122 #[x1,y1]).alloc _)).call hb (by omega);have B2 : Mem.Blk w' (w.heap.size + 1) 122 #[x2,y2] := by
  have := (Mem.Blk.new (w.alloc (.cells #[x1,y1] 122)) 122 #[x2,y2]);rw [e1] at this; exact this.call hb (by omega)
 exact ⟨B1.two.1,B1.two.2.1,B2.two.1,B2.two.2.1⟩
theorem keep4g {w : World} {h g : Nat} {a b c d u v : Value} (hg : h + 2<=g) (h1 : w.cell? ⟨h,0,none⟩=some a) (h2 : w.cell? ⟨h,1,none⟩=some b) (h3 : w.cell? ⟨h + 1,0,none⟩=some c) (h4 : w.cell? ⟨h + 1,1,none⟩=some d) :
 ((w.setCell ⟨g,0,none⟩ u).setCell ⟨g,1,none⟩ v).cell? ⟨h,0,none⟩=some a/\((w.setCell ⟨g,0,none⟩ u).setCell ⟨g,1,none⟩ v).cell? ⟨h,1,none⟩=some b/\((w.setCell ⟨g,0,none⟩ u).setCell ⟨g,1,none⟩ v).cell? ⟨h + 1,0,none⟩=some c/\((w.setCell ⟨g,0,none⟩ u).setCell ⟨g,1,none⟩ v).cell? ⟨h + 1,1,none⟩=some d :=
 ⟨far_cell (far_cell h1 (by omega)) (by omega),far_cell (far_cell h2 (by omega)) (by omega),far_cell (far_cell h3 (by omega)) (by omega),far_cell (far_cell h4 (by omega)) (by omega)⟩
def cmpZ (z z' : Int) : Int := if z < z' then -1 else if z=z' then 0 else 1
theorem bigcmp_any (u v : Value) (z z' : Int) (w : World) (hu : BigR w u z) (hv : BigR w v z') (bn : Sm z.natAbs) (bn' : Sm (-z').natAbs) :
 Calls Tryz.prog 77 #[u,v] w fun e w' => e=.returned (.int .i64 (cmpZ z z'))/\Below w.heap.size w w' := by
 have HR := LH9 (fun (x : Int) (h : cmpZ z z'=x) => (ret_int h.symm : Ending.returned (.int .i64 x)=.returned (.int .i64 (cmpZ z z'))));have HU := LH9 hu;have HV := LH9 hv;obtain ⟨m,rfl,a,len,cap,l,rfl,h1,h2,h3⟩ := hu;obtain ⟨m',rfl,a',len',cap',l',rfl,h1',h2',h3'⟩ := hv;clear h1 h2 h3 h1' h2' h3';generalize decide (z < 0)=s at *;generalize decide (z' < 0)=s' at *;have T := LH9 ((((Below.refl _ w).alloc (Nat.le_refl _) (.cells #[.bool s,.slice a len cap] 122)).alloc (by simp) (.cells #[.bool s',.slice a' len' cap'] 122)) : Below w.heap.size w _);have TC := LH9 (fun w' hb => two_cells64 (w := w) (w' := w') (x1 := .bool s) (y1 := .slice a len cap) (x2 := .bool s') (y2 := .slice a' len' cap') hb);have TS := LH9 (show ((w.alloc (.cells #[.bool s,.slice a len cap] 122)).alloc (.cells #[.bool s',.slice a' len' cap'] 122)).heap.size=w.heap.size + 2 by simp);have TL : Hid (w.heap.size<=((w.alloc (.cells #[.bool s,.slice a len cap] 122)).alloc (.cells #[.bool s',.slice a' len' cap'] 122)).heap.size) := by show _<=_; rw [TS.o]; omega
 go_enter Tryz.func77,Tryz.ntmps77
 go_wp2_with fail;obtain ⟨c1,c2,c3,c4⟩ := TC.o _ (Below.refl _ _);generalize (w.alloc (.cells #[.bool s,.slice a len cap] 122)).alloc (.cells #[.bool s',.slice a' len' cap'] 122)=v at *
 go_region_held3 (fun w' => w'.cell? ⟨w.heap.size,0,none⟩=some (.bool s)/\w'.cell? ⟨w.heap.size,1,none⟩=some (.slice a len cap)/\w'.cell? ⟨w.heap.size + 1,0,none⟩=some (.bool s')/\w'.cell? ⟨w.heap.size + 1,1,none⟩=some (.slice a' len' cap')) (first | exact keep4g (Nat.le_trans (Nat.le_of_eq TS.o.symm) k1.size) g1 g2 g3 g4 | exact keep4g (Nat.le_of_eq TS.o.symm) g1 g2 g3 g4 | go_keep)
  (first
   | (go_at_call 88
      refine (minus_any _ z' _ (HV.o.below (by first | exact T.o.drew | exact (T.o.alloc TL.o _).drew))).mono ?_;rintro e w1 ⟨⟨r,rfl,hr⟩,b1⟩;have k1 : Below (w.heap.size + 2) v w1 := by
       first
        | exact ((Below.refl _ v).drew).trans (b1.mono (Nat.le_of_eq TS.o.symm))
        | exact (((Below.refl (w.heap.size + 2) v).alloc (Nat.le_of_eq TS.o.symm) (.cells #[.bool false,.slice none 0 0] 122)).drew).trans (b1.mono (Nat.le_trans (Nat.le_of_eq TS.o.symm) ((Below.refl (w.heap.size + 2) v).alloc (Nat.le_of_eq TS.o.symm) (.cells #[.bool false,.slice none 0 0] 122)).size))
      have k0 : Below w.heap.size w w1 := T.o.trans (k1.mono (by omega));obtain ⟨d1,d2,d3,d4⟩ := TC.o w1 k1;have a1 : Below w1.heap.size w1 (w1.alloc (.cells #[.bool false,.slice none 0 0] 122)) := (Below.refl _ _).alloc (Nat.le_refl _) _;have a2 : Below (w.heap.size + 2) v (w1.alloc (.cells #[.bool false,.slice none 0 0] 122)) := k1.trans (a1.mono (Nat.le_trans (Nat.le_of_eq TS.o.symm) k1.size));obtain ⟨n1,n2,n3,n4⟩ := TC.o _ a2
      try (have BA := (Mem.Blk.new v 122 #[.bool false,.slice none 0 0]).drew.below b1))
   | (go_at_call 45
      refine (plus_any _ _ z (-z') _ (HU.o.below (by first | exact k0 | exact T.o.trans (a2.mono (by omega)))) (by first | exact hr | exact hr.below a1) bn bn').mono ?_;rintro e w2 ⟨⟨r2,rfl,hr2⟩,b2⟩;have k2 : Below (w.heap.size + 2) v w2 := by
       first
        | exact k1.trans (b2.mono (Nat.le_trans (Nat.le_of_eq TS.o.symm) k1.size))
        | exact a2.trans (b2.mono (Nat.le_trans (Nat.le_of_eq TS.o.symm) a2.size))
      obtain ⟨g1,g2,g3,g4⟩ := TC.o w2 k2;obtain ⟨m2,rfl,a2,len2,cap2,l2,rfl,q1,q2,q3⟩ := hr2
      try (have B3 := (Mem.Blk.new w1 122 #[.bool false,.slice none 0 0]).below b2; obtain ⟨e0,e1,f0,f1⟩ := B3.two)
      try (have B4 := BA.below b2; obtain ⟨e0,e1,f0,f1⟩ := B4.two)))
 all_goals
  have hz := MagR.zero q1 q2 q3;have K := LH9 (T.o.trans (k2.mono (by omega)));have S1 := LH9 k0.size;clear TC HU HV q1 q2 q3 hr k0 k1 k2 b1 b2 d1 d2 d3 d4 g1 g2 g3 g4 a1 n1 n2 n3 n4 c1 c2 c3 c4 bn bn';rcases Int.lt_trichotomy z z' with hlt | heq | hlt
  . have FIN := LH9 (HR.o (-1) (by unfold cmpZ; rw [if_pos hlt]));have e1 : decide (z + -z' < 0)=true := by simp; omega
    have hne : ((len2 : Int) == 0)=false := by simp; omega
    generalize decide (z + -z' < 0)=neg at *;subst e1;clear hz hlt
    exact Z7_101
  . have FIN := LH9 (HR.o 0 (by unfold cmpZ; rw [if_neg (by omega),if_pos heq]));have hl0 : len2=0 := by omega
    subst hl0;clear hz heq
    exact Z7_101
  . have FIN := LH9 (HR.o 1 (by unfold cmpZ; rw [if_neg (by omega),if_neg (by omega)]));have e1 : decide (z + -z' < 0)=false := by simp; omega
    have hne : ((len2 : Int) == 0)=false := by simp; omega
    generalize decide (z + -z' < 0)=neg at *;subst e1;clear hz hlt
    exact Z7_101
end
end Go.Proofs.YtmiinmndbkdjbaaGreat
