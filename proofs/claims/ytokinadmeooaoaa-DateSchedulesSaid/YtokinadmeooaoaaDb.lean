import Derived.Test.YtokinadmeooaoaaDa
namespace Go.Proofs.Ytokinadmeooaoaa
open Go.RowKit
theorem results_tmp4 {fn : Func} {t u v x : Tmp} (h : fn.results = #[.tmp t, .tmp u, .tmp v, .tmp x]) (tmps : Array Value) (P : Program) (w : World) :
    (results fn tmps).run P w = .ok (.tuple #[tmps.getD t undef, tmps.getD u undef, tmps.getD v undef, tmps.getD x undef]) w := by simp [results, h]
theorem civil_no (n : Int) (w : World) (h : isD n = false) :
    Calls Try.prog 18 #[.int .i64 n] w fun e w' => e = .returned (.tuple #[.int .i64 0, .int .i64 0, .int .i64 0, .bool false]) ∧ w = w' := by
  go_enter Try.func18, Try.ntmps18
  go_wp2_with (go_at_call 41; refine (is_any _ _).mono ?_; rintro e w' ⟨rfl, rfl⟩)
  refine bodyPost_ret (results_tmp4 rfl _ _ _) rfl ?_
  exact ⟨rfl, rfl⟩
theorem isD_iff (n : Int) : isD n = true ↔ 0 ≤ n ∧ n ≤ 2932896 := by unfold isD; simp
theorem civil_bd (n : Int) (h0 : 0 ≤ n) (h1 : n ≤ 2932896) : 0 ≤ Cal.ci n ∧ Cal.ci n ≤ 365 ∧ 0 ≤ Cal.cy n ∧ Cal.cy n ≤ 399 := by
  have he : Cal.ce n = (n + 719468) % 146097 := rfl
  have hy := Cal.yoe (Cal.ce n) (by omega) (by omega) (Cal.cy n) rfl
  have hi : Cal.ci n = Cal.ce n - (365 * Cal.cy n + Cal.cy n / 4 - Cal.cy n / 100) := rfl
  omega
theorem ret4 {a b c a' b' c' : Int} {p : Bool} (h : a = a') (h' : b = b') (h'' : c = c') :
    Ending.returned (.tuple #[.int .i64 a, .int .i64 b, .int .i64 c, .bool p]) = .returned (.tuple #[.int .i64 a', .int .i64 b', .int .i64 c', .bool p]) := by rw [h, h', h'']
set_option maxHeartbeats 400000 in
theorem civil_yes (n : Int) (w : World) (h : isD n = true) :
    Calls Try.prog 18 #[.int .i64 n] w fun e w' => e = .returned (.tuple #[.int .i64 (Cal.Y n), .int .i64 (Cal.M n), .int .i64 (Cal.D n), .bool true]) ∧ w = w' := by
  obtain ⟨h0, h1⟩ := (isD_iff n).1 h
  obtain ⟨b1, b2, b3, b4⟩ := civil_bd n h0 h1
  unfold Cal.ci Cal.cy Cal.ce Cal.cz at b1 b2
  unfold Cal.cy Cal.ce Cal.cz at b3 b4
  go_enter Try.func18, Try.ntmps18
  go_wp2_with (go_at_call 41; refine (is_any _ _).mono ?_; rintro e w' ⟨rfl, rfl⟩)
  all_goals refine bodyPost_ret (results_tmp4 rfl _ _ _) rfl ?_
  · have hc : 10 ≤ Cal.cm n := by assumption
    refine ⟨ret4 ?_ ?_ rfl, rfl⟩
    · unfold Cal.Y; rw [if_pos hc]; rfl
    · unfold Cal.M; rw [if_pos hc]; rfl
  · have hc : ¬ 10 ≤ Cal.cm n := by have : Cal.cm n < 10 := by assumption
                                    omega
    refine ⟨ret4 ?_ ?_ rfl, rfl⟩
    · unfold Cal.Y; rw [if_neg hc]; rfl
    · unfold Cal.M; rw [if_neg hc]; rfl
end Go.Proofs.Ytokinadmeooaoaa
