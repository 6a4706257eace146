/-
  No cell of these rows narrows 'for every input' (looked for: loops, veiled, ifaces, maps, wideKeys, modest, calm, conditions, laid).
  DERIVED. THE GIVEN ROWS OF THIS SEAT. 6 by the template 'for every input the law returns true; each argument reads behind the call as it read before'; 0 by the template 'total and deterministic' (their statements: YtefpjdgfcgjbaaaTotals.lean).
  GIVEN WITH THE SEED: the statements are not yours to turn. If you find one false, say at which input.
  Laid BY PROGRAM, IN A SANDBOX (cutbox-rows.mjs): the forced cells as the released guide's own fill.sh prints them over the translation 361e93b0ff32616d… (all of the seat's roots in one cut). By AI agents, Wed Nov 11 2026. No macro, syntax, notation, axiom, sorry.
-/
import Derived.Test.YtefpjdgfcgjbaaaChecked
import GoSem.Claim
import GoSem.ClaimJoined
import GoSem.ClaimMapViews
import Derived.JoinedTies
import Derived.KernelRfl
namespace Go.Proofs.Ytefpjdgfcgjbaaa
/- THE CELL 'sum', in the pinned program and in every row, IS THE sha256 OF THE DUMP (.gsa) THAT YtefpjdgfcgjbaaaProg.lean LOADS. Nothing in Lean hashes anything: it is a label: what it is worth is what the hold of that sum in a sandbox is worth. -/
noncomputable def Try.pinned : Pinned := { name := "ytefpjdgfcgjbaaa", sum := "361e93b0ff32616de572fd5e548f83c3ef4cd9cb7ca97b19ead9b15db3e9036b", checked := Try.checked }
namespace Rows
def none {H : Type} : Left H := { results := [], args := [] }

/-- 'debenturelaw05.DiskSafe': WHATEVER THE INPUT: true; the input reads as it did. -/
def diskSafeSpec : ChangeSpec := { name := "diskSafe", fn := fun _ => fun
  | [d1, d2, d3] => { results := [.lit (.bool true)], args := [d1, d2, d3] }
  | _ => none }
def diskSafeRow : OpenClaim := { program := "ytefpjdgfcgjbaaa", sum := "361e93b0ff32616de572fd5e548f83c3ef4cd9cb7ca97b19ead9b15db3e9036b", func := "debenture/debenturelaw05.DiskSafe", spec := "diskSafe", unfollowed := true, recurses := true, apart := false }
def DiskSafeSaid : Prop := diskSafeRow.holds Try.pinned (OpenSpec.ofChange diskSafeSpec)

/-- ITS FALSE NEIGHBOUR: 'it returns false'. Refute it at one input. -/
def diskSafeWrong : ChangeSpec := { name := "diskSafe", fn := fun _ => fun
  | [d1, d2, d3] => { results := [.lit (.bool false)], args := [d1, d2, d3] }
  | _ => none }
def DiskSafeWrongFalsely : Prop := diskSafeRow.holds Try.pinned (OpenSpec.ofChange diskSafeWrong)

/-- 'debenturelaw05.DiskFull': WHATEVER THE INPUT: true; the input reads as it did. -/
def diskFullSpec : ChangeSpec := { name := "diskFull", fn := fun _ => fun
  | [d] => { results := [.lit (.bool true)], args := [d] }
  | _ => none }
def diskFullRow : OpenClaim := { program := "ytefpjdgfcgjbaaa", sum := "361e93b0ff32616de572fd5e548f83c3ef4cd9cb7ca97b19ead9b15db3e9036b", func := "debenture/debenturelaw05.DiskFull", spec := "diskFull", unfollowed := true, recurses := true, apart := false }
def DiskFullSaid : Prop := diskFullRow.holds Try.pinned (OpenSpec.ofChange diskFullSpec)

/-- ITS FALSE NEIGHBOUR: 'it returns false'. Refute it at one input. -/
def diskFullWrong : ChangeSpec := { name := "diskFull", fn := fun _ => fun
  | [d] => { results := [.lit (.bool false)], args := [d] }
  | _ => none }
def DiskFullWrongFalsely : Prop := diskFullRow.holds Try.pinned (OpenSpec.ofChange diskFullWrong)

/-- 'debenturelaw05.DiskNames': WHATEVER THE INPUT: true; the input reads as it did. -/
def diskNamesSpec : ChangeSpec := { name := "diskNames", fn := fun _ => fun
  | [d1, d2, d3, d4, d5] => { results := [.lit (.bool true)], args := [d1, d2, d3, d4, d5] }
  | _ => none }
def diskNamesRow : OpenClaim := { program := "ytefpjdgfcgjbaaa", sum := "361e93b0ff32616de572fd5e548f83c3ef4cd9cb7ca97b19ead9b15db3e9036b", func := "debenture/debenturelaw05.DiskNames", spec := "diskNames", unfollowed := true, recurses := true, apart := false }
def DiskNamesSaid : Prop := diskNamesRow.holds Try.pinned (OpenSpec.ofChange diskNamesSpec)

/-- ITS FALSE NEIGHBOUR: 'it returns false'. Refute it at one input. -/
def diskNamesWrong : ChangeSpec := { name := "diskNames", fn := fun _ => fun
  | [d1, d2, d3, d4, d5] => { results := [.lit (.bool false)], args := [d1, d2, d3, d4, d5] }
  | _ => none }
def DiskNamesWrongFalsely : Prop := diskNamesRow.holds Try.pinned (OpenSpec.ofChange diskNamesWrong)

/-- 'debenturelaw05.DiskArmed': WHATEVER THE INPUT: true; the input reads as it did. -/
def diskArmedSpec : ChangeSpec := { name := "diskArmed", fn := fun _ => fun
  | [d1, d2] => { results := [.lit (.bool true)], args := [d1, d2] }
  | _ => none }
def diskArmedRow : OpenClaim := { program := "ytefpjdgfcgjbaaa", sum := "361e93b0ff32616de572fd5e548f83c3ef4cd9cb7ca97b19ead9b15db3e9036b", func := "debenture/debenturelaw05.DiskArmed", spec := "diskArmed", unfollowed := true, recurses := true, apart := false }
def DiskArmedSaid : Prop := diskArmedRow.holds Try.pinned (OpenSpec.ofChange diskArmedSpec)

/-- ITS FALSE NEIGHBOUR: 'it returns false'. Refute it at one input. -/
def diskArmedWrong : ChangeSpec := { name := "diskArmed", fn := fun _ => fun
  | [d1, d2] => { results := [.lit (.bool false)], args := [d1, d2] }
  | _ => none }
def DiskArmedWrongFalsely : Prop := diskArmedRow.holds Try.pinned (OpenSpec.ofChange diskArmedWrong)

/-- 'debenturelaw05.DiskPlays': WHATEVER THE INPUT: true; the input reads as it did. -/
def diskPlaysSpec : ChangeSpec := { name := "diskPlays", fn := fun _ => fun
  | [d1, d2] => { results := [.lit (.bool true)], args := [d1, d2] }
  | _ => none }
def diskPlaysRow : OpenClaim := { program := "ytefpjdgfcgjbaaa", sum := "361e93b0ff32616de572fd5e548f83c3ef4cd9cb7ca97b19ead9b15db3e9036b", func := "debenture/debenturelaw05.DiskPlays", spec := "diskPlays", unfollowed := true, recurses := true, apart := false }
def DiskPlaysSaid : Prop := diskPlaysRow.holds Try.pinned (OpenSpec.ofChange diskPlaysSpec)

/-- ITS FALSE NEIGHBOUR: 'it returns false'. Refute it at one input. -/
def diskPlaysWrong : ChangeSpec := { name := "diskPlays", fn := fun _ => fun
  | [d1, d2] => { results := [.lit (.bool false)], args := [d1, d2] }
  | _ => none }
def DiskPlaysWrongFalsely : Prop := diskPlaysRow.holds Try.pinned (OpenSpec.ofChange diskPlaysWrong)

/-- 'debenturelaw05.DiskNone': WHATEVER THE INPUT: true; the input reads as it did. -/
def diskNoneSpec : ChangeSpec := { name := "diskNone", fn := fun _ => fun
  | [d] => { results := [.lit (.bool true)], args := [d] }
  | _ => none }
def diskNoneRow : OpenClaim := { program := "ytefpjdgfcgjbaaa", sum := "361e93b0ff32616de572fd5e548f83c3ef4cd9cb7ca97b19ead9b15db3e9036b", func := "debenture/debenturelaw05.DiskNone", spec := "diskNone", unfollowed := true, recurses := true, apart := false }
def DiskNoneSaid : Prop := diskNoneRow.holds Try.pinned (OpenSpec.ofChange diskNoneSpec)

/-- ITS FALSE NEIGHBOUR: 'it returns false'. Refute it at one input. -/
def diskNoneWrong : ChangeSpec := { name := "diskNone", fn := fun _ => fun
  | [d] => { results := [.lit (.bool false)], args := [d] }
  | _ => none }
def DiskNoneWrongFalsely : Prop := diskNoneRow.holds Try.pinned (OpenSpec.ofChange diskNoneWrong)

/- THE SECOND FORM. 'bulk': how many values and letters a reading holds, each counted each time it is reached (what is shared counts as often as it is met; a slice's spare places count too). A statement '..UptoSaid' is the law's where the arguments, and the package variables that the reading takes, are together of bulk at most 1048576: NARROWER than '..Said'. Prove '..Said' where nothing that the law and all that it calls make is longer than what came in: it says more and counts as full. Else prove '..UptoSaid'. A law counts once. -/
mutual
def uptoBulk {H : Type} : DataW H → Nat
  | .lit (.string bytes) => bytes.length + 1
  | .lit _ => 1
  | .nil => 1
  | .ptr d => uptoBulk d + 1
  | .slice elems spare => uptoBulkAll elems + uptoBulkAll spare + 1
  | .agg parts => uptoBulkAll parts + 1
  | .iface _ d => uptoBulk d + 1
  | .map entries => uptoBulkEntries entries + 1
  | .held _ => 1
def uptoBulkAll {H : Type} : List (DataW H) → Nat
  | [] => 0
  | d :: r => uptoBulk d + uptoBulkAll r
def uptoBulkEntries {H : Type} : List (Lit × DataW H) → Nat
  | [] => 0
  | x :: r => uptoBulkEntry x + uptoBulkEntries r
def uptoBulkEntry {H : Type} : Lit × DataW H → Nat
  | (.string bytes, d) => bytes.length + uptoBulk d + 1
  | (_, d) => uptoBulk d + 1
 end
def uptoSmall : (H : Type) → List (DataW H) → Bool := fun _ ds => decide (uptoBulkAll ds ≤ 1048576)
def OpenSpec.upto (s : _root_.Go.ChangeSpec) : _root_.Go.OpenSpec := { _root_.Go.OpenSpec.ofChange s with cond := some uptoSmall }

/-- 'debenturelaw05.DiskSafe', WHERE WHAT IT READS IS OF BULK AT MOST 1048576: true; the input reads as it did. -/
def diskSafeUptoRow : OpenClaim := { program := "ytefpjdgfcgjbaaa", sum := "361e93b0ff32616de572fd5e548f83c3ef4cd9cb7ca97b19ead9b15db3e9036b", func := "debenture/debenturelaw05.DiskSafe", spec := "diskSafe", unfollowed := true, recurses := true, apart := false, narrowed := true }
def DiskSafeUptoSaid : Prop := diskSafeUptoRow.holds Try.pinned (OpenSpec.upto diskSafeSpec)

/-- 'debenturelaw05.DiskFull', WHERE WHAT IT READS IS OF BULK AT MOST 1048576: true; the input reads as it did. -/
def diskFullUptoRow : OpenClaim := { program := "ytefpjdgfcgjbaaa", sum := "361e93b0ff32616de572fd5e548f83c3ef4cd9cb7ca97b19ead9b15db3e9036b", func := "debenture/debenturelaw05.DiskFull", spec := "diskFull", unfollowed := true, recurses := true, apart := false, narrowed := true }
def DiskFullUptoSaid : Prop := diskFullUptoRow.holds Try.pinned (OpenSpec.upto diskFullSpec)

/-- 'debenturelaw05.DiskNames', WHERE WHAT IT READS IS OF BULK AT MOST 1048576: true; the input reads as it did. -/
def diskNamesUptoRow : OpenClaim := { program := "ytefpjdgfcgjbaaa", sum := "361e93b0ff32616de572fd5e548f83c3ef4cd9cb7ca97b19ead9b15db3e9036b", func := "debenture/debenturelaw05.DiskNames", spec := "diskNames", unfollowed := true, recurses := true, apart := false, narrowed := true }
def DiskNamesUptoSaid : Prop := diskNamesUptoRow.holds Try.pinned (OpenSpec.upto diskNamesSpec)

/-- 'debenturelaw05.DiskArmed', WHERE WHAT IT READS IS OF BULK AT MOST 1048576: true; the input reads as it did. -/
def diskArmedUptoRow : OpenClaim := { program := "ytefpjdgfcgjbaaa", sum := "361e93b0ff32616de572fd5e548f83c3ef4cd9cb7ca97b19ead9b15db3e9036b", func := "debenture/debenturelaw05.DiskArmed", spec := "diskArmed", unfollowed := true, recurses := true, apart := false, narrowed := true }
def DiskArmedUptoSaid : Prop := diskArmedUptoRow.holds Try.pinned (OpenSpec.upto diskArmedSpec)

/-- 'debenturelaw05.DiskPlays', WHERE WHAT IT READS IS OF BULK AT MOST 1048576: true; the input reads as it did. -/
def diskPlaysUptoRow : OpenClaim := { program := "ytefpjdgfcgjbaaa", sum := "361e93b0ff32616de572fd5e548f83c3ef4cd9cb7ca97b19ead9b15db3e9036b", func := "debenture/debenturelaw05.DiskPlays", spec := "diskPlays", unfollowed := true, recurses := true, apart := false, narrowed := true }
def DiskPlaysUptoSaid : Prop := diskPlaysUptoRow.holds Try.pinned (OpenSpec.upto diskPlaysSpec)

/-- 'debenturelaw05.DiskNone', WHERE WHAT IT READS IS OF BULK AT MOST 1048576: true; the input reads as it did. -/
def diskNoneUptoRow : OpenClaim := { program := "ytefpjdgfcgjbaaa", sum := "361e93b0ff32616de572fd5e548f83c3ef4cd9cb7ca97b19ead9b15db3e9036b", func := "debenture/debenturelaw05.DiskNone", spec := "diskNone", unfollowed := true, recurses := true, apart := false, narrowed := true }
def DiskNoneUptoSaid : Prop := diskNoneUptoRow.holds Try.pinned (OpenSpec.upto diskNoneSpec)

end Rows
end Go.Proofs.Ytefpjdgfcgjbaaa
