/- Elements of arrays through a pointer. General: no program is named. -/
import Derived.Test.YtkfhcfkbaaekoaaDoorK11
namespace Go.Proofs.YtkfhcfkbaaekoaaDoor.K
open Go
set_option linter.unusedVariables false
theorem Seg.one {w : World} {b o : Nat} {v : Value} (h : w.cell? ⟨b, o, none⟩ = some v) : Seg w b o [v] := fun j u hu => by
  cases j with
  | zero => simp at hu; subst hu; exact h
  | succ j => simp at hu
section
variable {P : Program} {n : Nat} {ops : Array Oper} {rest : List Oper} {K : Env → World → Prop} {E : Env} {w : World} {d : Nat} {ty : TypeId} {pos : String} {af : Array Edge}
end
end Go.Proofs.YtkfhcfkbaaekoaaDoor.K
