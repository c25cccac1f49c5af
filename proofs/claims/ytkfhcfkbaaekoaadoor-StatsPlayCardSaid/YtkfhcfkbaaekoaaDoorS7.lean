/- slices.Equal in plain words. No program is named. -/
import Derived.Test.YtkfhcfkbaaekoaaDoorS6
namespace Go.Proofs.YtkfhcfkbaaekoaaDoor.K
open Go
set_option linter.unusedVariables false
section
variable {α : Type} [DecidableEq α]
def eqB (ys : List α) (x : α) (s : Nat) : Option (Step Bool Nat) := (ixO ys ((s : Nat) : Int)).bind fun y => (if (!decide (x = y)) = true then some (.ret false) else some (.next (s + 1)))
def eqG (xs ys : List α) : Option Bool := (if (!decide (((xs.length : Nat) : Int) = ((ys.length : Nat) : Int))) = true then some false else (runBO (eqB ys) xs 0).bind fun o => o.elim (fun r => some r) fun (s : Nat) => some true)
end
end Go.Proofs.YtkfhcfkbaaekoaaDoor.K
