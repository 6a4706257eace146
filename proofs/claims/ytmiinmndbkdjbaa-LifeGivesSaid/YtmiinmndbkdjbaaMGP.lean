/- THE ROW OF LifeGives: for every input that can be read it returns true, and each argument reads as it did. -/
import Derived.Test.YtmiinmndbkdjbaaMAA
import Derived.Test.YtmiinmndbkdjbaaMAB
import Derived.Test.YtmiinmndbkdjbaaMAC
import Derived.Test.YtmiinmndbkdjbaaMAD
import Derived.Test.YtmiinmndbkdjbaaMAE
import Derived.Test.YtmiinmndbkdjbaaMAF
import Derived.Test.YtmiinmndbkdjbaaMAG
import Derived.Test.YtmiinmndbkdjbaaMAH
import Derived.Test.YtmiinmndbkdjbaaMAI
import Derived.Test.YtmiinmndbkdjbaaMAJ
import Derived.Test.YtmiinmndbkdjbaaMAK
import Derived.Test.YtmiinmndbkdjbaaMAL
import Derived.Test.YtmiinmndbkdjbaaMAM
import Derived.Test.YtmiinmndbkdjbaaMAN
import Derived.Test.YtmiinmndbkdjbaaMAO
import Derived.Test.YtmiinmndbkdjbaaMAQ
import Derived.Test.YtmiinmndbkdjbaaMAR
import Derived.Test.YtmiinmndbkdjbaaMAS
import Derived.Test.YtmiinmndbkdjbaaMAT
import Derived.Test.YtmiinmndbkdjbaaMAU
import Derived.Test.YtmiinmndbkdjbaaMAV
import Derived.Test.YtmiinmndbkdjbaaMAW
import Derived.Test.YtmiinmndbkdjbaaMAX
import Derived.Test.YtmiinmndbkdjbaaMGA
import Derived.Test.YtmiinmndbkdjbaaRows
import Derived.WalkKit
import Derived.ProofKit
import Derived.OpenShut
import Derived.ShutString
import Derived.ChangeOld
import Derived.Below
namespace Go.Proofs.Ytmiinmndbkdjbaa.lifeGivesDone
open Go.ChangeShapes Go.WideShapes Go.ChangeAt Go.RowKit
open Go.ChangeMaps (open_string shut_string)
set_option linter.unusedVariables false

theorem own : ownKnob Try.prog.godebug = none := by kernel_rfl
theorem laidOut : laidOutB Try.prog = true := by kernel_rfl

set_option maxRecDepth 100000 in
set_option maxHeartbeats 1000000 in
theorem lifted (os : Os) (started : os.Started) (H : Type) (enc : TypeId × Value → H) :
    ReturnsInHanded {} Try.checked os 4 .any (Rows.lifeGivesSpec.pre6 enc Try.prog Try.f4 Rows.lifeGivesRow.domain false) (Rows.lifeGivesSpec.post enc Try.prog Try.f4 false true false false) := by
  refine returnsInHanded_of_change (C := Try.checked) own started (by kernel_rfl) Try.func4
    (ChangeSpec.witness6 (enc := enc) (C := Try.checked) false ⟨#[], #[.slice none 0 0, .slice none 0 0, .agg #[.int .i64 0, .slice none 0 0], .agg #[.int .i64 0, .slice none 0 0]], []⟩ 8 (by kernel_rfl) (by kernel_rfl) (by kernel_rfl) (by kernel_rfl)) ?_
  intro W base args ds gs before hval0 hW hcnd _
  have hval : ∀ (j : Nat) t v, Try.f4.params[j]? = some t → args[j]? = some v → Value.okWide Try.prog W .any base t v := hval0
  have hW' := hW
  obtain ⟨p, q, hA0, hV, rfl, hfz, hnd⟩ := hW
  have hA : DataW.TrodAll enc Try.prog W 0 (fun _ => true) true Try.f4.params.toList args.toList ds p := hA0
  rw [Try.params4] at hA hval
  obtain ⟨v0, vs0, d0, ds0, p0, q0, hargs, rfl, rfl, h0, r0⟩ := trodAll_cons hA
  obtain ⟨v1, vs1, d1, ds1, p1, q1, rfl, rfl, rfl, h1, r1⟩ := trodAll_cons r0
  obtain ⟨v2, vs2, d2, ds2, p2, q2, rfl, rfl, rfl, h2, r2⟩ := trodAll_cons r1
  obtain ⟨v3, vs3, d3, ds3, p3, q3, rfl, rfl, rfl, h3, r3⟩ := trodAll_cons r2
  obtain ⟨rfl, rfl, rfl⟩ := trodAll_nil r3
  obtain rfl : args = #[v0, v1, v2, v3] := by cases args; simp_all
  obtain ⟨rfl, rfl⟩ := trodVars_none hV
  have k0 := h0
  have lt0 : ∀ x ∈ p0, x.block < W.heap.size := by obtain ⟨m, hm⟩ := k0; exact DataW.trod_lt m _ _ _ hm
  obtain ⟨a0, len0, cap0, rfl⟩ := okWide_slice Try.underlying22 (hval 0 22 v0 rfl rfl)
  obtain ⟨l0, w0⟩ := leaves_of k0
  have k1 := h1
  have lt1 : ∀ x ∈ p1, x.block < W.heap.size := by obtain ⟨m, hm⟩ := k1; exact DataW.trod_lt m _ _ _ hm
  obtain ⟨a1, len1, cap1, rfl⟩ := okWide_slice Try.underlying23 (hval 1 23 v1 rfl rfl)
  obtain ⟨l1, w1⟩ := knots_of k1
  have k2 := h2
  have lt2 : ∀ x ∈ p2, x.block < W.heap.size := by obtain ⟨m, hm⟩ := k2; exact DataW.trod_lt m _ _ _ hm
  obtain ⟨day2, a2, len2, cap2, l2, rfl, y2, w2⟩ := env_of (hval 2 26 v2 rfl rfl) k2
  have k3 := h3
  have lt3 : ∀ x ∈ p3, x.block < W.heap.size := by obtain ⟨m, hm⟩ := k3; exact DataW.trod_lt m _ _ _ hm
  obtain ⟨day3, a3, len3, cap3, l3, rfl, y3, w3⟩ := env_of (hval 3 26 v3 rfl rfl) k3
  clear hA0 hval0
  refine (lifeGives_any _ _ _ _ _ _ _ _ _ _ _ _ _ _ _ _ _ _ W w0 w1 w2 y2 w3 y3).mono fun e W' ⟨he, bel⟩ => ?_
  subst he
  exact ⟨_, rfl, _, _, _, [], _, [], hW', trodAll_mk1 (shut_bool Try.underlying4 _), (trodAll_cons_mk (Below.trod laidOut (by kernel_rfl) (of_decide_eq_true (by kernel_rfl)) k0 bel lt0) (trodAll_cons_mk (Below.trod laidOut (by kernel_rfl) (of_decide_eq_true (by kernel_rfl)) k1 bel lt1) (trodAll_cons_mk (Below.trod laidOut (by kernel_rfl) (of_decide_eq_true (by kernel_rfl)) k2 bel lt2) (trodAll_cons_mk (Below.trod laidOut (by kernel_rfl) (of_decide_eq_true (by kernel_rfl)) k3 bel lt3) trodAll_mk0)))), rfl, bel.frame _, fun h => by cases h⟩

theorem over : Rows.lifeGivesRow.holds Try.pinned (OpenSpec.ofChange Rows.lifeGivesSpec) :=
  OpenClaim.holds_of_wide 4 Try.f4 rfl rfl rfl rfl rfl rfl rfl ⟨rfl, rfl, rfl, rfl, rfl⟩ rfl rfl rfl rfl rfl (by kernel_rfl) Try.func4 (by kernel_rfl)
    (of_decide_eq_true (by kernel_rfl)) (by unfold Func.isWrapper; first | (rw [if_pos (by decide +kernel)]; kernel_rfl) | (rw [if_neg (by decide +kernel)]; exact ⟨rfl, rfl⟩))
    (fun os started H enc _ => lifted os started H enc)

theorem proved : Rows.LifeGivesSaid := over
#print axioms proved
end Go.Proofs.Ytmiinmndbkdjbaa.lifeGivesDone
