/- Slices of texts, read as bytes. -/
import Derived.Test.YtgbiimoednmlgaaLit
import Derived.Sort.EncStr
import Derived.Deep.Draws
namespace Go.Proofs.Ytgbiimoednmlgaa
set_option linter.unusedVariables false
set_option linter.unusedSimpArgs false
open Go.RowKit
/-- A text as its bytes. -/
def strK : Elt (List UInt8) where
  sz := 1
  pos := by decide
  R := fun _ _ s cs => cs = [encStr s]
  kept := fun h _ => h
  less := fun h _ => h
  one := fun h => by subst h; exact ⟨rfl, by simp [encStr, Value.oneCell']⟩
theorem below_dN {B : Nat} {a w : World} (h : Below B a w) (n : Nat) : Below B a (w.drewN n) := ⟨h.os, h.tape, h.output, h.size, h.block⟩
end Go.Proofs.Ytgbiimoednmlgaa
