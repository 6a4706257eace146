/- THE ROW OF LifeTotals: for every input that can be read it returns true, and each argument reads as it did. -/
import Derived.Test.YtmiinmndbkdjbaaGreatMTA
import Derived.Test.YtmiinmndbkdjbaaGreatMTB
import Derived.Test.YtmiinmndbkdjbaaGreatMTC
import Derived.Test.YtmiinmndbkdjbaaGreatMTD
import Derived.Test.YtmiinmndbkdjbaaGreatMTE
import Derived.Test.YtmiinmndbkdjbaaGreatMTF
import Derived.Test.YtmiinmndbkdjbaaGreatMTG
import Derived.Test.YtmiinmndbkdjbaaGreatMTH
import Derived.Test.YtmiinmndbkdjbaaGreatMTI
import Derived.Test.YtmiinmndbkdjbaaGreatMTJ
import Derived.Test.YtmiinmndbkdjbaaGreatMTK
import Derived.Test.YtmiinmndbkdjbaaGreatMTL
import Derived.Test.YtmiinmndbkdjbaaGreatMTM
import Derived.Test.YtmiinmndbkdjbaaGreatMTN
import Derived.Test.YtmiinmndbkdjbaaGreatMTO
import Derived.Test.YtmiinmndbkdjbaaGreatMTQ
import Derived.Test.YtmiinmndbkdjbaaGreatMTR
import Derived.Test.YtmiinmndbkdjbaaGreatMTS
import Derived.Test.YtmiinmndbkdjbaaGreatMTT
import Derived.Test.YtmiinmndbkdjbaaGreatMTU
import Derived.Test.YtmiinmndbkdjbaaGreatRows
import Derived.WalkKit
import Derived.ProofKit
import Derived.OpenShut
import Derived.ShutString
import Derived.ChangeOld
import Derived.Below
namespace Go.Proofs.YtmiinmndbkdjbaaGreat.lifeTotalsDone
open Go.ChangeShapes Go.WideShapes Go.ChangeAt Go.RowKit
open Go.ChangeMaps (open_string shut_string)
set_option linter.unusedVariables false

theorem own : ownKnob Tryz.prog.godebug = none := by kernel_rfl
theorem laidOut : laidOutB Tryz.prog = true := by kernel_rfl

set_option maxRecDepth 100000 in
set_option maxHeartbeats 1000000 in
theorem lifted (os : Os) (started : os.Started) (H : Type) (enc : TypeId × Value → H) :
    ReturnsInHanded {} Tryz.checked os 5 .any (Rows.lifeTotalsSpec.pre6 enc Tryz.prog Tryz.f5 Rows.lifeTotalsRow.domain false) (Rows.lifeTotalsSpec.post enc Tryz.prog Tryz.f5 false true false false) := by
  refine returnsInHanded_of_change (C := Tryz.checked) own started (by kernel_rfl) Tryz.func5
    (ChangeSpec.witness6 (enc := enc) (C := Tryz.checked) false ⟨#[], #[.slice none 0 0], []⟩ 8 (by kernel_rfl) (by kernel_rfl) (by kernel_rfl) (by kernel_rfl)) ?_
  intro W base args ds gs before hval0 hW hcnd _
  have hval : ∀ (j : Nat) t v, Tryz.f5.params[j]? = some t → args[j]? = some v → Value.okWide Tryz.prog W .any base t v := hval0
  have hW' := hW
  obtain ⟨p, q, hA0, hV, rfl, hfz, hnd⟩ := hW
  have hA : DataW.TrodAll enc Tryz.prog W 0 (fun _ => true) true Tryz.f5.params.toList args.toList ds p := hA0
  rw [Tryz.params5] at hA hval
  obtain ⟨v0, vs0, d0, ds0, p0, q0, hargs, rfl, rfl, h0, r0⟩ := trodAll_cons hA
  obtain ⟨rfl, rfl, rfl⟩ := trodAll_nil r0
  obtain rfl : args = #[v0] := by cases args; simp_all
  obtain ⟨rfl, rfl⟩ := trodVars_none hV
  have k0 := h0
  have lt0 : ∀ x ∈ p0, x.block < W.heap.size := by obtain ⟨m, hm⟩ := k0; exact DataW.trod_lt m _ _ _ hm
  obtain ⟨a0, len0, cap0, rfl⟩ := okWide_slice Tryz.underlying47 (hval 0 47 v0 rfl rfl)
  obtain ⟨l0, w0⟩ := flows_of k0
  clear hA0 hval0
  refine (lifeTotals_any _ _ _ _ W w0).mono fun e W' ⟨he, bel⟩ => ?_
  subst he
  exact ⟨_, rfl, _, _, _, [], _, [], hW', trodAll_mk1 (shut_bool Tryz.underlying4 _), (trodAll_cons_mk (Below.trod laidOut (by kernel_rfl) (of_decide_eq_true (by kernel_rfl)) k0 bel lt0) trodAll_mk0), rfl, bel.frame _, fun h => by cases h⟩

theorem over : Rows.lifeTotalsRow.holds Tryz.pinned (OpenSpec.ofChange Rows.lifeTotalsSpec) :=
  OpenClaim.holds_of_wide 5 Tryz.f5 rfl rfl rfl rfl rfl rfl rfl ⟨rfl, rfl, rfl, rfl, rfl⟩ rfl rfl rfl rfl rfl (by kernel_rfl) Tryz.func5 (by kernel_rfl)
    (of_decide_eq_true (by kernel_rfl)) (by unfold Func.isWrapper; first | (rw [if_pos (by decide +kernel)]; kernel_rfl) | (rw [if_neg (by decide +kernel)]; exact ⟨rfl, rfl⟩))
    (fun os started H enc _ => lifted os started H enc)

theorem proved : Rows.LifeTotalsSaid := over
#print axioms proved
end Go.Proofs.YtmiinmndbkdjbaaGreat.lifeTotalsDone
