/- The contract of Print; no conditions. -/
import Derived.Test.YtokinadmeooaoaaDb
import Derived.Test.YtokinadmeooaoaaMem
import Derived.Deep.AppendLies
import Derived.Laws.BytesArg
namespace Go.Proofs.Ytokinadmeooaoaa
open Go.RowKit
theorem two_any (v : Int) (w : World) (h0 : 0 ≤ v) (h1 : v ≤ 9999) :
    Calls Try.prog 43 #[.int .i64 v] w fun e w' => e = .returned (.slice (some ⟨w.heap.size, 0, none⟩) 2 2) ∧ w.alloc (.cells #[.int .u8 (48 + v / 10 % 10), .int .u8 (48 + v % 10)] 5) = w' := by
  go_enter Try.func43, Try.ntmps43
  go_wp2
  go_ret
  exact ⟨rfl, rfl⟩
theorem info5 : (Try.prog.info? 5).map (fun i => (i.zero, i.size, i.bytes)) = some (some (.int .u8 0), 1, 1) := by kernel_rfl
def two (v : Int) : List Int := [48 + v / 10 % 10, 48 + v % 10]
def ptext (y m d : Int) : List Int := two (y / 100) ++ two y ++ [45] ++ two m ++ [45] ++ two d
def dtext (n : Int) : ByteArray := if isD n then strOfNums (ptext (Cal.Y n) (Cal.M n) (Cal.D n)) else ByteArray.empty
def tv (l : List Int) : List Value := l.map (Value.int .u8)
theorem tv_one (l : List Int) : ∀ u ∈ tv l, u.oneCell' = true := by intro u h; unfold tv at h; simp at h; obtain ⟨_, _, rfl⟩ := h; rfl
theorem tv_app (a b : List Int) : tv a ++ tv b = tv (a ++ b) := by simp [tv]
theorem two_cells (v : Int) (w : World) : ∀ j u, (tv (two v))[j]? = some u → (w.alloc (.cells #[.int .u8 (48 + v / 10 % 10), .int .u8 (48 + v % 10)] 5)).cell? ((⟨w.heap.size, 0, none⟩ : Addr).add j) = some u :=
  Mem.lit_cells w #[.int .u8 (48 + v / 10 % 10), .int .u8 (48 + v % 10)] 5
theorem dash_cells (w : World) : ∀ j u, (tv [45])[j]? = some u → (w.alloc (.cells #[.int .u8 45] 5)).cell? ((⟨w.heap.size, 0, none⟩ : Addr).add j) = some u :=
  Mem.lit_cells w #[.int .u8 45] 5
theorem conv_own {w0 w : World} {v : Value} {n : Nat} {l : List Int} (h : Mem.Own w0 w 5 1 v n (tv l)) (hn : l.length = n) : (convert 66 9 v).run Try.prog w = .ok (.string (strOfNums l)) w := by
  by_cases h0 : 0 < n
  · obtain ⟨g, cap, rfl, _, _⟩ := h.own.form h0
    refine run_convert_bytes_arg (P := Try.prog) w 66 5 Try.underlying66 Try.underlying5 g 0 n cap l hn (fun i hi => ?_) 9 Try.underlying9
    rw [Nat.zero_add, h.cell i (by omega)]
    simp [tv, List.getD_eq_getElem?_getD, List.getElem?_eq_getElem (show i < l.length by omega)]
  · have : n = 0 := by omega
    subst this
    have : l = [] := List.eq_nil_of_length_eq_zero hn
    subst this
    rcases h.own.2 with ⟨rfl, _⟩ | ⟨g, cap, cur, rfl, _⟩
    · exact run_convert_bytes_nil (P := Try.prog) w 66 5 Try.underlying66 Try.underlying5 0 0 9 Try.underlying9
    · exact run_convert_bytes_arg (P := Try.prog) w 66 5 Try.underlying66 Try.underlying5 g 0 0 cap [] rfl (fun i hi => absurd hi (by omega)) 9 Try.underlying9
set_option maxHeartbeats 1000000 in
theorem print_yes (n : Int) (w : World) (h : isD n = true) :
    Calls Try.prog 29 #[.int .i64 n] w fun e w' => e = .returned (.string (dtext n)) ∧ Below w.heap.size w w' := by
  obtain ⟨h0, h1⟩ := (isD_iff n).1 h
  obtain ⟨⟨a1, a2, a3, a4, a5, a6⟩, _⟩ := Cal.civil_ok n h0 h1
  have hdm := Cal.dim_le (Cal.Y n) (Cal.M n)
  have a7 : Cal.D n ≤ 31 := by omega
  clear hdm a6
  have hD : Ending.returned (.string (strOfNums (ptext (Cal.Y n) (Cal.M n) (Cal.D n)))) = .returned (.string (dtext n)) := by unfold dtext; rw [if_pos h]
  have HD := Lib.hid hD
  clear hD
  go_enter Try.func29, Try.ntmps29
  go_wp2_with fail
  refine (civil_yes _ _ h).mono ?_; rintro e w' ⟨rfl, rfl⟩
  generalize Cal.Y n = y at *
  generalize Cal.M n = m at *
  generalize Cal.D n = d at *
  go_wp2_with fail
  refine (two_any _ _ (by omega) (by omega)).mono ?_; rintro e w1 ⟨rfl, hw1⟩
  have o1 : Mem.Own w w1 5 1 (.slice (some ⟨w.heap.size, 0, none⟩) 2 2) 2 (tv (two (y / 100))) := by
    rw [← hw1]; exact Mem.Own.lit (Below.refl _ _) _ 2 (by decide) rfl
  clear hw1
  go_wp2_with fail
  refine (two_any _ _ (by omega) (by omega)).mono ?_; rintro e w2 ⟨rfl, hw2⟩
  have o2 : Mem.Own w w2 5 1 (.slice (some ⟨w.heap.size, 0, none⟩) 2 2) 2 (tv (two (y / 100))) := by rw [← hw2]; exact o1.alloc _
  have c2 : ∀ j u, (tv (two y))[j]? = some u → w2.cell? ((⟨w1.heap.size, 0, none⟩ : Addr).add j) = some u := by rw [← hw2]; exact two_cells y w1
  have C2 := Lib.hid c2
  clear hw2 c2
  go_wp2_with (first
    | (at_builtin; refine Mem.ap info5 Try.underlying66 rfl (by decide) rfl (.tmp 21) (.tmp 24) rfl rfl o2 ⟨w1.heap.size, 0, none⟩ 2 2 (tv (two y)) rfl rfl C2.out (tv_one _) (by decide) (by decide) ?_; intro v3 w3 o3 _ _ _; simp only [tv_app] at o3)
    | (at_builtin; refine Mem.ap info5 Try.underlying66 rfl (by decide) rfl (.tmp 26) (.tmp 27) rfl rfl (o3.alloc _) ⟨w3.heap.size, 0, none⟩ 1 1 (tv [45]) rfl rfl (dash_cells _) (tv_one _) (by decide) (by decide) ?_; intro v4 w4 o4 _ _ _; simp only [tv_app] at o4))
  clear o1 o2 C2 o3
  refine (two_any _ _ (by omega) (by omega)).mono ?_; rintro e w5 ⟨rfl, hw5⟩
  have o5 : Mem.Own w w5 5 1 v4 (2 + 2 + 1) (tv (two (y / 100) ++ two y ++ [45])) := by rw [← hw5]; exact o4.alloc _
  have c5 : ∀ j u, (tv (two m))[j]? = some u → w5.cell? ((⟨w4.heap.size, 0, none⟩ : Addr).add j) = some u := by rw [← hw5]; exact two_cells m w4
  have C5 := Lib.hid c5
  clear hw5 c5 o4
  go_wp2_with (first
    | (at_builtin; refine Mem.ap info5 Try.underlying66 rfl (by decide) rfl (.tmp 28) (.tmp 31) rfl rfl o5 ⟨w4.heap.size, 0, none⟩ 2 2 (tv (two m)) rfl rfl C5.out (tv_one _) (by decide) (by decide) ?_; intro v6 w6 o6 _ _ _; simp only [tv_app] at o6)
    | (at_builtin; refine Mem.ap info5 Try.underlying66 rfl (by decide) rfl (.tmp 33) (.tmp 34) rfl rfl (o6.alloc _) ⟨w6.heap.size, 0, none⟩ 1 1 (tv [45]) rfl rfl (dash_cells _) (tv_one _) (by decide) (by decide) ?_; intro v7 w7 o7 _ _ _; simp only [tv_app] at o7))
  clear o5 C5 o6
  refine (two_any _ _ (by omega) (by omega)).mono ?_; rintro e w8 ⟨rfl, hw8⟩
  have o8 : Mem.Own w w8 5 1 v7 (2 + 2 + 1 + 2 + 1) (tv (two (y / 100) ++ two y ++ [45] ++ two m ++ [45])) := by rw [← hw8]; exact o7.alloc _
  have c8 : ∀ j u, (tv (two d))[j]? = some u → w8.cell? ((⟨w7.heap.size, 0, none⟩ : Addr).add j) = some u := by rw [← hw8]; exact two_cells d w7
  have C8 := Lib.hid c8
  clear hw8 c8 o7
  go_wp2_with (at_builtin; refine Mem.ap info5 Try.underlying66 rfl (by decide) rfl (.tmp 35) (.tmp 38) rfl rfl o8 ⟨w7.heap.size, 0, none⟩ 2 2 (tv (two d)) rfl rfl C8.out (tv_one _) (by decide) (by decide) ?_; intro v9 w9 o9 _ _ _; simp only [tv_app] at o9; have hcv : (convert 66 9 v9).run Try.prog w9 = .ok (.string (strOfNums (ptext y m d))) w9 := conv_own o9 rfl)
  go_ret
  exact ⟨HD.out, o9.below⟩
theorem print_no (n : Int) (w : World) (h : isD n = false) :
    Calls Try.prog 29 #[.int .i64 n] w fun e w' => e = .returned (.string (dtext n)) ∧ Below w.heap.size w w' := by
  have hD : Ending.returned (.string ⟨#[]⟩) = .returned (.string (dtext n)) := by unfold dtext; rw [h]; rfl
  have HD := Lib.hid hD
  clear hD
  go_enter Try.func29, Try.ntmps29
  go_wp2_with fail
  refine (civil_no _ _ h).mono ?_; rintro e w' ⟨rfl, rfl⟩
  go_wp2
  go_ret
  exact ⟨HD.out, Below.refl _ _⟩
theorem print_any (n : Int) (w : World) :
    Calls Try.prog 29 #[.int .i64 n] w fun e w' => e = .returned (.string (dtext n)) ∧ Below w.heap.size w w' := by
  cases h : isD n with
  | true => exact print_yes n w h
  | false => exact print_no n w h
end Go.Proofs.Ytokinadmeooaoaa
