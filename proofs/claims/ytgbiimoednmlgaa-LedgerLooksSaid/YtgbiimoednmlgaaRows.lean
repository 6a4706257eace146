/-
  No cell of these rows narrows 'for every input' (looked for: loops, veiled, ifaces, maps, wideKeys, modest, calm, conditions, laid).
  DERIVED. THE GIVEN ROWS OF THIS SEAT. 5 by the template 'for every input the law returns true; each argument reads behind the call as it read before'; 0 by the template 'total and deterministic' (their statements: YtgbiimoednmlgaaTotals.lean).
  GIVEN WITH THE SEED: the statements are not yours to turn. If you find one false, say at which input.
  Laid BY PROGRAM, IN A SANDBOX (cutbox-rows.mjs): the forced cells as the released guide's own fill.sh prints them over the translation 2d40f2b484a8dfc2… (all of the seat's roots in one cut). By AI agents, Wed Nov 11 2026. No macro, syntax, notation, axiom, sorry.
-/
import Derived.Test.YtgbiimoednmlgaaChecked
import GoSem.Claim
import GoSem.ClaimJoined
import GoSem.ClaimMapViews
import Derived.JoinedTies
import Derived.KernelRfl
namespace Go.Proofs.Ytgbiimoednmlgaa
/- THE CELL 'sum', in the pinned program and in every row, IS THE sha256 OF THE DUMP (.gsa) THAT YtgbiimoednmlgaaProg.lean LOADS. Nothing in Lean hashes anything: it is a label: what it is worth is what the hold of that sum in a sandbox is worth. -/
noncomputable def Try.pinned : Pinned := { name := "ytgbiimoednmlgaa", sum := "2d40f2b484a8dfc2b8a8e2bdc13f02be017c12f475a252b087652e7960f1ec12", checked := Try.checked }
namespace Rows
def none {H : Type} : Left H := { results := [], args := [] }

/-- 'debenturelaw24.LedgerPosts': WHATEVER THE INPUT: true; the input reads as it did. -/
def ledgerPostsSpec : ChangeSpec := { name := "ledgerPosts", fn := fun _ => fun
  | [d1, d2] => { results := [.lit (.bool true)], args := [d1, d2] }
  | _ => none }
def ledgerPostsRow : OpenClaim := { program := "ytgbiimoednmlgaa", sum := "2d40f2b484a8dfc2b8a8e2bdc13f02be017c12f475a252b087652e7960f1ec12", func := "debenture/debenturelaw24.LedgerPosts", spec := "ledgerPosts", inPlace := ["slices.overlaps[debenture/ledger.entry]", "math/bits.Add64"], unfollowed := true, recurses := true, apart := false }
def LedgerPostsSaid : Prop := ledgerPostsRow.holds Try.pinned (OpenSpec.ofChange ledgerPostsSpec)

/-- ITS FALSE NEIGHBOUR: 'it returns false'. Refute it at one input. -/
def ledgerPostsWrong : ChangeSpec := { name := "ledgerPosts", fn := fun _ => fun
  | [d1, d2] => { results := [.lit (.bool false)], args := [d1, d2] }
  | _ => none }
def LedgerPostsWrongFalsely : Prop := ledgerPostsRow.holds Try.pinned (OpenSpec.ofChange ledgerPostsWrong)

/-- 'debenturelaw24.LedgerEven': WHATEVER THE INPUT: true; the input reads as it did. -/
def ledgerEvenSpec : ChangeSpec := { name := "ledgerEven", fn := fun _ => fun
  | [d1, d2] => { results := [.lit (.bool true)], args := [d1, d2] }
  | _ => none }
def ledgerEvenRow : OpenClaim := { program := "ytgbiimoednmlgaa", sum := "2d40f2b484a8dfc2b8a8e2bdc13f02be017c12f475a252b087652e7960f1ec12", func := "debenture/debenturelaw24.LedgerEven", spec := "ledgerEven", inPlace := ["slices.overlaps[debenture/ledger.entry]", "math/bits.Add64"], unfollowed := true, recurses := true, apart := false }
def LedgerEvenSaid : Prop := ledgerEvenRow.holds Try.pinned (OpenSpec.ofChange ledgerEvenSpec)

/-- ITS FALSE NEIGHBOUR: 'it returns false'. Refute it at one input. -/
def ledgerEvenWrong : ChangeSpec := { name := "ledgerEven", fn := fun _ => fun
  | [d1, d2] => { results := [.lit (.bool false)], args := [d1, d2] }
  | _ => none }
def LedgerEvenWrongFalsely : Prop := ledgerEvenRow.holds Try.pinned (OpenSpec.ofChange ledgerEvenWrong)

/-- 'debenturelaw24.LedgerClears': WHATEVER THE INPUT: true; the input reads as it did. -/
def ledgerClearsSpec : ChangeSpec := { name := "ledgerClears", fn := fun _ => fun
  | [d1, d2, d3] => { results := [.lit (.bool true)], args := [d1, d2, d3] }
  | _ => none }
def ledgerClearsRow : OpenClaim := { program := "ytgbiimoednmlgaa", sum := "2d40f2b484a8dfc2b8a8e2bdc13f02be017c12f475a252b087652e7960f1ec12", func := "debenture/debenturelaw24.LedgerClears", spec := "ledgerClears", inPlace := ["slices.overlaps[debenture/ledger.entry]", "math/bits.Add64"], unfollowed := true, recurses := true, apart := false }
def LedgerClearsSaid : Prop := ledgerClearsRow.holds Try.pinned (OpenSpec.ofChange ledgerClearsSpec)

/-- ITS FALSE NEIGHBOUR: 'it returns false'. Refute it at one input. -/
def ledgerClearsWrong : ChangeSpec := { name := "ledgerClears", fn := fun _ => fun
  | [d1, d2, d3] => { results := [.lit (.bool false)], args := [d1, d2, d3] }
  | _ => none }
def LedgerClearsWrongFalsely : Prop := ledgerClearsRow.holds Try.pinned (OpenSpec.ofChange ledgerClearsWrong)

/-- 'debenturelaw24.LedgerLooks': WHATEVER THE INPUT: true; the input reads as it did. -/
def ledgerLooksSpec : ChangeSpec := { name := "ledgerLooks", fn := fun _ => fun
  | [d1, d2, d3, d4] => { results := [.lit (.bool true)], args := [d1, d2, d3, d4] }
  | _ => none }
def ledgerLooksRow : OpenClaim := { program := "ytgbiimoednmlgaa", sum := "2d40f2b484a8dfc2b8a8e2bdc13f02be017c12f475a252b087652e7960f1ec12", func := "debenture/debenturelaw24.LedgerLooks", spec := "ledgerLooks", inPlace := ["slices.overlaps[debenture/ledger.entry]", "math/bits.Add64"], unfollowed := true, recurses := true, apart := false }
def LedgerLooksSaid : Prop := ledgerLooksRow.holds Try.pinned (OpenSpec.ofChange ledgerLooksSpec)

/-- ITS FALSE NEIGHBOUR: 'it returns false'. Refute it at one input. -/
def ledgerLooksWrong : ChangeSpec := { name := "ledgerLooks", fn := fun _ => fun
  | [d1, d2, d3, d4] => { results := [.lit (.bool false)], args := [d1, d2, d3, d4] }
  | _ => none }
def LedgerLooksWrongFalsely : Prop := ledgerLooksRow.holds Try.pinned (OpenSpec.ofChange ledgerLooksWrong)

/-- 'debenturelaw24.LedgerSettles': WHATEVER THE INPUT: true; the input reads as it did. -/
def ledgerSettlesSpec : ChangeSpec := { name := "ledgerSettles", fn := fun _ => fun
  | [d1, d2, d3] => { results := [.lit (.bool true)], args := [d1, d2, d3] }
  | _ => none }
def ledgerSettlesRow : OpenClaim := { program := "ytgbiimoednmlgaa", sum := "2d40f2b484a8dfc2b8a8e2bdc13f02be017c12f475a252b087652e7960f1ec12", func := "debenture/debenturelaw24.LedgerSettles", spec := "ledgerSettles", inPlace := ["slices.overlaps[debenture/ledger.entry]", "math/bits.Add64"], unfollowed := true, recurses := true, apart := false }
def LedgerSettlesSaid : Prop := ledgerSettlesRow.holds Try.pinned (OpenSpec.ofChange ledgerSettlesSpec)

/-- ITS FALSE NEIGHBOUR: 'it returns false'. Refute it at one input. -/
def ledgerSettlesWrong : ChangeSpec := { name := "ledgerSettles", fn := fun _ => fun
  | [d1, d2, d3] => { results := [.lit (.bool false)], args := [d1, d2, d3] }
  | _ => none }
def LedgerSettlesWrongFalsely : Prop := ledgerSettlesRow.holds Try.pinned (OpenSpec.ofChange ledgerSettlesWrong)

/- THE SECOND FORM. 'bulk': how many values and letters a reading holds, each counted each time it is reached (what is shared counts as often as it is met; a slice's spare places count too). A statement '..UptoSaid' is the law's where the arguments, and the package variables that the reading takes, are together of bulk at most 1048576: NARROWER than '..Said'. Prove '..Said' where nothing that the law and all that it calls make is longer than what came in: it says more and counts as full. Else prove '..UptoSaid'. A law counts once. -/
mutual
def uptoBulk {H : Type} : DataW H → Nat
  | .lit (.string bytes) => bytes.length + 1
  | .lit _ => 1
  | .nil => 1
  | .ptr d => uptoBulk d + 1
  | .slice elems spare => uptoBulkAll elems + uptoBulkAll spare + 1
  | .agg parts => uptoBulkAll parts + 1
  | .iface _ d => uptoBulk d + 1
  | .map entries => uptoBulkEntries entries + 1
  | .held _ => 1
def uptoBulkAll {H : Type} : List (DataW H) → Nat
  | [] => 0
  | d :: r => uptoBulk d + uptoBulkAll r
def uptoBulkEntries {H : Type} : List (Lit × DataW H) → Nat
  | [] => 0
  | x :: r => uptoBulkEntry x + uptoBulkEntries r
def uptoBulkEntry {H : Type} : Lit × DataW H → Nat
  | (.string bytes, d) => bytes.length + uptoBulk d + 1
  | (_, d) => uptoBulk d + 1
 end
def uptoSmall : (H : Type) → List (DataW H) → Bool := fun _ ds => decide (uptoBulkAll ds ≤ 1048576)
def OpenSpec.upto (s : _root_.Go.ChangeSpec) : _root_.Go.OpenSpec := { _root_.Go.OpenSpec.ofChange s with cond := some uptoSmall }

/-- 'debenturelaw24.LedgerPosts', WHERE WHAT IT READS IS OF BULK AT MOST 1048576: true; the input reads as it did. -/
def ledgerPostsUptoRow : OpenClaim := { program := "ytgbiimoednmlgaa", sum := "2d40f2b484a8dfc2b8a8e2bdc13f02be017c12f475a252b087652e7960f1ec12", func := "debenture/debenturelaw24.LedgerPosts", spec := "ledgerPosts", inPlace := ["slices.overlaps[debenture/ledger.entry]", "math/bits.Add64"], unfollowed := true, recurses := true, apart := false, narrowed := true }
def LedgerPostsUptoSaid : Prop := ledgerPostsUptoRow.holds Try.pinned (OpenSpec.upto ledgerPostsSpec)

/-- 'debenturelaw24.LedgerEven', WHERE WHAT IT READS IS OF BULK AT MOST 1048576: true; the input reads as it did. -/
def ledgerEvenUptoRow : OpenClaim := { program := "ytgbiimoednmlgaa", sum := "2d40f2b484a8dfc2b8a8e2bdc13f02be017c12f475a252b087652e7960f1ec12", func := "debenture/debenturelaw24.LedgerEven", spec := "ledgerEven", inPlace := ["slices.overlaps[debenture/ledger.entry]", "math/bits.Add64"], unfollowed := true, recurses := true, apart := false, narrowed := true }
def LedgerEvenUptoSaid : Prop := ledgerEvenUptoRow.holds Try.pinned (OpenSpec.upto ledgerEvenSpec)

/-- 'debenturelaw24.LedgerClears', WHERE WHAT IT READS IS OF BULK AT MOST 1048576: true; the input reads as it did. -/
def ledgerClearsUptoRow : OpenClaim := { program := "ytgbiimoednmlgaa", sum := "2d40f2b484a8dfc2b8a8e2bdc13f02be017c12f475a252b087652e7960f1ec12", func := "debenture/debenturelaw24.LedgerClears", spec := "ledgerClears", inPlace := ["slices.overlaps[debenture/ledger.entry]", "math/bits.Add64"], unfollowed := true, recurses := true, apart := false, narrowed := true }
def LedgerClearsUptoSaid : Prop := ledgerClearsUptoRow.holds Try.pinned (OpenSpec.upto ledgerClearsSpec)

/-- 'debenturelaw24.LedgerLooks', WHERE WHAT IT READS IS OF BULK AT MOST 1048576: true; the input reads as it did. -/
def ledgerLooksUptoRow : OpenClaim := { program := "ytgbiimoednmlgaa", sum := "2d40f2b484a8dfc2b8a8e2bdc13f02be017c12f475a252b087652e7960f1ec12", func := "debenture/debenturelaw24.LedgerLooks", spec := "ledgerLooks", inPlace := ["slices.overlaps[debenture/ledger.entry]", "math/bits.Add64"], unfollowed := true, recurses := true, apart := false, narrowed := true }
def LedgerLooksUptoSaid : Prop := ledgerLooksUptoRow.holds Try.pinned (OpenSpec.upto ledgerLooksSpec)

/-- 'debenturelaw24.LedgerSettles', WHERE WHAT IT READS IS OF BULK AT MOST 1048576: true; the input reads as it did. -/
def ledgerSettlesUptoRow : OpenClaim := { program := "ytgbiimoednmlgaa", sum := "2d40f2b484a8dfc2b8a8e2bdc13f02be017c12f475a252b087652e7960f1ec12", func := "debenture/debenturelaw24.LedgerSettles", spec := "ledgerSettles", inPlace := ["slices.overlaps[debenture/ledger.entry]", "math/bits.Add64"], unfollowed := true, recurses := true, apart := false, narrowed := true }
def LedgerSettlesUptoSaid : Prop := ledgerSettlesUptoRow.holds Try.pinned (OpenSpec.upto ledgerSettlesSpec)

end Rows
end Go.Proofs.Ytgbiimoednmlgaa
