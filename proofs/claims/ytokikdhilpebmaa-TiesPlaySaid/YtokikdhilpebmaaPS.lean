/- Texts held against each other by Go's library. No Go and no memory. -/
import Derived.Test.YtokikdhilpebmaaPA
namespace Go.Proofs.Ytokikdhilpebmaa
open Go K
set_option linter.unusedVariables false

theorem cmpS (a b : ByteArray) : F23_string a b = if a = b then 0 else if Op.bytesLess a.toList b.toList then -1 else 1 := by
  unfold F23_string F39_string
  by_cases h : a = b
  · subst h
    have hs : Op.bytesLess a.toList a.toList = false := less_self _
    simp [lt, hs]
  · cases hb : Op.bytesLess a.toList b.toList <;> simp [lt, h]
end Go.Proofs.Ytokikdhilpebmaa
