/- slices.Compact in plain words; texts in order. No program is named. -/
import Derived.Test.YtkfhcfkbaaekoaaDoorS1
namespace Go.Proofs.YtkfhcfkbaaekoaaDoor.K
open Go
set_option linter.unusedVariables false
section
variable {α : Type} [DecidableEq α]
def compL (l : List α) : List α := l.foldl (fun acc x => if acc.getLast? = some x then acc else acc ++ [x]) []
def comB2 (k : Int) (ys : List α) (s : Int × Int × List α) : Option (Step Empty (Int × Int × List α)) :=
  if (decide (s.2.1 < ((ys.length : Nat) : Int))) = true then (ixO (s.2.2.drop k.toNat) s.2.1).bind fun y => (ixO (s.2.2.drop k.toNat) (IntKind.i64.wrap (s.2.1 - 1))).bind fun z => if (!decide (y = z)) = true then (ixO (s.2.2.drop k.toNat) s.2.1).bind fun u => (ixO s.2.2 s.1).bind fun _ =>
    some (.next (IntKind.i64.wrap (s.1 + 1), IntKind.i64.wrap (s.2.1 + 1), s.2.2.set s.1.toNat u)) else some (.next (s.1, IntKind.i64.wrap (s.2.1 + 1), s.2.2)) else some (.fin (s.1, s.2.1, s.2.2))
def comB1 (z0 : α) (s : Int × List α) : Option (Step (List α) (Int × List α)) :=
  if (decide (s.1 < ((s.2.length : Nat) : Int))) = true then (ixO s.2 s.1).bind fun y => (ixO s.2 (IntKind.i64.wrap (s.1 - 1))).bind fun z => if (decide (y = z)) = true then (slO s.2 s.1 ((s.2.length : Nat) : Int)).bind fun ys => (runW (comB2 s.1 ys) FUEL (s.1, 1, s.2)).bind fun o => o.elim (fun r => r.elim) fun (t : Int × Int × List α) =>
    (slO t.2.2 t.1 ((t.2.2.length : Nat) : Int)).bind fun _ => (slO (t.2.2.take t.1.toNat ++ List.replicate (t.2.2.length - t.1.toNat) z0) 0 t.1).bind fun r => some (.ret r) else some (.next (IntKind.i64.wrap (s.1 + 1), s.2)) else some (.fin (s.1, s.2))
def comG (z0 : α) (xs : List α) : Option (List α) := if (decide (((xs.length : Nat) : Int) < 2)) = true then some xs else (runW (comB1 z0) FUEL (1, xs)).bind fun o => o.elim (fun r => some r) fun (s : Int × List α) => some s.2
theorem wrapm {n : Nat} (h0 : 0 < n) (h : n < 9223372036854775807) : IntKind.i64.wrap ((n : Int) - 1) = ((n - 1 : Nat) : Int) := by
  rw [Go.IntWalk.i64_in _ (by omega)]; omega
end
end Go.Proofs.YtkfhcfkbaaekoaaDoor.K
