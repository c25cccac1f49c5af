/- Texts held against each other by Go's library. No Go and no memory. -/
import Derived.Test.YtgcneihmkkldeaaGreatPA
namespace Go.Proofs.YtgcneihmkkldeaaGreat
open Go K
set_option linter.unusedVariables false

theorem cmpS (a b : ByteArray) : F52_string a b = if a = b then 0 else if Op.bytesLess a.toList b.toList then -1 else 1 := by
  unfold F52_string F79_string
  by_cases h : a = b
  · subst h
    have hs : Op.bytesLess a.toList a.toList = false := less_self _
    simp [lt, hs]
  · cases hb : Op.bytesLess a.toList b.toList <;> simp [lt, h]
end Go.Proofs.YtgcneihmkkldeaaGreat
