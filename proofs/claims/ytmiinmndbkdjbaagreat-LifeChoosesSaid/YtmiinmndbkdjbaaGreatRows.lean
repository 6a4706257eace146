/-
  No cell of these rows narrows 'for every input' (looked for: loops, veiled, ifaces, maps, wideKeys, modest, calm, conditions, laid).
  DERIVED. THE GIVEN ROWS OF THIS SEAT. 3 by the template 'for every input the law returns true; each argument reads behind the call as it read before'; 0 by the template 'total and deterministic' (their statements: YtmiinmndbkdjbaaGreatTotals.lean).
  GIVEN WITH THE SEED: the statements are not yours to turn. If you find one false, say at which input.
  Laid BY PROGRAM, IN A SANDBOX (cutbox-rows.mjs): the forced cells as the released guide's own fill.sh prints them over the translation 06b80a2b8d13ef56… (all of the seat's roots in one cut). By AI agents, Wed Nov 11 2026. No macro, syntax, notation, axiom, sorry.
-/
import Derived.Test.YtmiinmndbkdjbaaGreatChecked
import GoSem.Claim
import GoSem.ClaimJoined
import GoSem.ClaimMapViews
import Derived.JoinedTies
import Derived.KernelRfl
namespace Go.Proofs.YtmiinmndbkdjbaaGreat
/- THE CELL 'sum', in the pinned program and in every row, IS THE sha256 OF THE DUMP (.gsa) THAT YtmiinmndbkdjbaaGreatProg.lean LOADS. Nothing in Lean hashes anything: it is a label: what it is worth is what the hold of that sum in a sandbox is worth. -/
noncomputable def Tryz.pinned : Pinned := { name := "ytmiinmndbkdjbaagreat", sum := "06b80a2b8d13ef56265eb939f4bcd3951e92d0b6dffbd31c1daae30bb806b8b7", checked := Tryz.checked }
namespace Rows
def none {H : Type} : Left H := { results := [], args := [] }

/-- 'debenturelaw23.LifeStarts': WHATEVER THE INPUT: true; the input reads as it did. -/
def lifeStartsSpec : ChangeSpec := { name := "lifeStarts", fn := fun _ => fun
  | [d1, d2, d3] => { results := [.lit (.bool true)], args := [d1, d2, d3] }
  | _ => none }
def lifeStartsRow : OpenClaim := { program := "ytmiinmndbkdjbaagreat", sum := "06b80a2b8d13ef56265eb939f4bcd3951e92d0b6dffbd31c1daae30bb806b8b7", func := "debenture/debenturelaw23.LifeStarts", spec := "lifeStarts", unfollowed := true, recurses := true, named := ["math/bits.divideError", "math/bits.overflowError"], apart := false }
def LifeStartsSaid : Prop := lifeStartsRow.holds Tryz.pinned (OpenSpec.ofChange lifeStartsSpec)

/-- ITS FALSE NEIGHBOUR: 'it returns false'. Refute it at one input. -/
def lifeStartsWrong : ChangeSpec := { name := "lifeStarts", fn := fun _ => fun
  | [d1, d2, d3] => { results := [.lit (.bool false)], args := [d1, d2, d3] }
  | _ => none }
def LifeStartsWrongFalsely : Prop := lifeStartsRow.holds Tryz.pinned (OpenSpec.ofChange lifeStartsWrong)

/-- 'debenturelaw23.LifeChooses': WHATEVER THE INPUT: true; the input reads as it did. -/
def lifeChoosesSpec : ChangeSpec := { name := "lifeChooses", fn := fun _ => fun
  | [d1, d2, d3, d4, d5, d6, d7] => { results := [.lit (.bool true)], args := [d1, d2, d3, d4, d5, d6, d7] }
  | _ => none }
def lifeChoosesRow : OpenClaim := { program := "ytmiinmndbkdjbaagreat", sum := "06b80a2b8d13ef56265eb939f4bcd3951e92d0b6dffbd31c1daae30bb806b8b7", func := "debenture/debenturelaw23.LifeChooses", spec := "lifeChooses", unfollowed := true, recurses := true, named := ["math/bits.divideError", "math/bits.overflowError"], apart := false }
def LifeChoosesSaid : Prop := lifeChoosesRow.holds Tryz.pinned (OpenSpec.ofChange lifeChoosesSpec)

/-- ITS FALSE NEIGHBOUR: 'it returns false'. Refute it at one input. -/
def lifeChoosesWrong : ChangeSpec := { name := "lifeChooses", fn := fun _ => fun
  | [d1, d2, d3, d4, d5, d6, d7] => { results := [.lit (.bool false)], args := [d1, d2, d3, d4, d5, d6, d7] }
  | _ => none }
def LifeChoosesWrongFalsely : Prop := lifeChoosesRow.holds Tryz.pinned (OpenSpec.ofChange lifeChoosesWrong)

/-- 'debenturelaw23.LifeTotals': WHATEVER THE INPUT: true; the input reads as it did. -/
def lifeTotalsSpec : ChangeSpec := { name := "lifeTotals", fn := fun _ => fun
  | [d] => { results := [.lit (.bool true)], args := [d] }
  | _ => none }
def lifeTotalsRow : OpenClaim := { program := "ytmiinmndbkdjbaagreat", sum := "06b80a2b8d13ef56265eb939f4bcd3951e92d0b6dffbd31c1daae30bb806b8b7", func := "debenture/debenturelaw23.LifeTotals", spec := "lifeTotals", inPlace := ["math/bits.Add64"], unfollowed := true, recurses := true, named := ["math/bits.divideError", "math/bits.overflowError"], apart := false }
def LifeTotalsSaid : Prop := lifeTotalsRow.holds Tryz.pinned (OpenSpec.ofChange lifeTotalsSpec)

/-- ITS FALSE NEIGHBOUR: 'it returns false'. Refute it at one input. -/
def lifeTotalsWrong : ChangeSpec := { name := "lifeTotals", fn := fun _ => fun
  | [d] => { results := [.lit (.bool false)], args := [d] }
  | _ => none }
def LifeTotalsWrongFalsely : Prop := lifeTotalsRow.holds Tryz.pinned (OpenSpec.ofChange lifeTotalsWrong)

/- THE SECOND FORM. 'bulk': how many values and letters a reading holds, each counted each time it is reached (what is shared counts as often as it is met; a slice's spare places count too). A statement '..UptoSaid' is the law's where the arguments, and the package variables that the reading takes, are together of bulk at most 1048576: NARROWER than '..Said'. Prove '..Said' where nothing that the law and all that it calls make is longer than what came in: it says more and counts as full. Else prove '..UptoSaid'. A law counts once. -/
mutual
def uptoBulk {H : Type} : DataW H → Nat
  | .lit (.string bytes) => bytes.length + 1
  | .lit _ => 1
  | .nil => 1
  | .ptr d => uptoBulk d + 1
  | .slice elems spare => uptoBulkAll elems + uptoBulkAll spare + 1
  | .agg parts => uptoBulkAll parts + 1
  | .iface _ d => uptoBulk d + 1
  | .map entries => uptoBulkEntries entries + 1
  | .held _ => 1
def uptoBulkAll {H : Type} : List (DataW H) → Nat
  | [] => 0
  | d :: r => uptoBulk d + uptoBulkAll r
def uptoBulkEntries {H : Type} : List (Lit × DataW H) → Nat
  | [] => 0
  | x :: r => uptoBulkEntry x + uptoBulkEntries r
def uptoBulkEntry {H : Type} : Lit × DataW H → Nat
  | (.string bytes, d) => bytes.length + uptoBulk d + 1
  | (_, d) => uptoBulk d + 1
 end
def uptoSmall : (H : Type) → List (DataW H) → Bool := fun _ ds => decide (uptoBulkAll ds ≤ 1048576)
def OpenSpec.upto (s : _root_.Go.ChangeSpec) : _root_.Go.OpenSpec := { _root_.Go.OpenSpec.ofChange s with cond := some uptoSmall }

/-- 'debenturelaw23.LifeStarts', WHERE WHAT IT READS IS OF BULK AT MOST 1048576: true; the input reads as it did. -/
def lifeStartsUptoRow : OpenClaim := { program := "ytmiinmndbkdjbaagreat", sum := "06b80a2b8d13ef56265eb939f4bcd3951e92d0b6dffbd31c1daae30bb806b8b7", func := "debenture/debenturelaw23.LifeStarts", spec := "lifeStarts", unfollowed := true, recurses := true, named := ["math/bits.divideError", "math/bits.overflowError"], apart := false, narrowed := true }
def LifeStartsUptoSaid : Prop := lifeStartsUptoRow.holds Tryz.pinned (OpenSpec.upto lifeStartsSpec)

/-- 'debenturelaw23.LifeChooses', WHERE WHAT IT READS IS OF BULK AT MOST 1048576: true; the input reads as it did. -/
def lifeChoosesUptoRow : OpenClaim := { program := "ytmiinmndbkdjbaagreat", sum := "06b80a2b8d13ef56265eb939f4bcd3951e92d0b6dffbd31c1daae30bb806b8b7", func := "debenture/debenturelaw23.LifeChooses", spec := "lifeChooses", unfollowed := true, recurses := true, named := ["math/bits.divideError", "math/bits.overflowError"], apart := false, narrowed := true }
def LifeChoosesUptoSaid : Prop := lifeChoosesUptoRow.holds Tryz.pinned (OpenSpec.upto lifeChoosesSpec)

/-- 'debenturelaw23.LifeTotals', WHERE WHAT IT READS IS OF BULK AT MOST 1048576: true; the input reads as it did. -/
def lifeTotalsUptoRow : OpenClaim := { program := "ytmiinmndbkdjbaagreat", sum := "06b80a2b8d13ef56265eb939f4bcd3951e92d0b6dffbd31c1daae30bb806b8b7", func := "debenture/debenturelaw23.LifeTotals", spec := "lifeTotals", inPlace := ["math/bits.Add64"], unfollowed := true, recurses := true, named := ["math/bits.divideError", "math/bits.overflowError"], apart := false, narrowed := true }
def LifeTotalsUptoSaid : Prop := lifeTotalsUptoRow.holds Tryz.pinned (OpenSpec.upto lifeTotalsSpec)

end Rows
end Go.Proofs.YtmiinmndbkdjbaaGreat
