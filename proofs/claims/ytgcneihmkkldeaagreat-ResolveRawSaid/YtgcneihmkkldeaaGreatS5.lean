/- What the library's sort leaves of a list, by a comparison that is a strict weak order: a permutation in order. No program is named. -/
import Derived.Test.YtgcneihmkkldeaaGreatS4
import Derived.Sort.AssemblyPlain
import Derived.Lib.BitFns
namespace Go.Proofs.YtgcneihmkkldeaaGreat.K
open Go Go.Sort
set_option linter.unusedVariables false

def ltC {α : Type} (cf : α → α → Int) (x y : α) : Bool := decide (cf x y < 0)
open Classical in
noncomputable def sortO {α : Type} (xs : List α) (cf : α → α → Int) : Option (List α) :=
  match xs with
  | [] => some []
  | x :: r => if SWO (ltC cf) then some (@pdq α ⟨x⟩ (ltC cf) (x :: r).toArray 0 (x :: r).length (Go.Lib.bitLen (x :: r).length) true true).toList else none
theorem sortO_spec {α : Type} {cf : α → α → Int} (h : SWO (ltC cf)) (xs : List α) : ∃ ys, sortO xs cf = some ys ∧ ys.Perm xs ∧ ys.Pairwise (fun a b => ltC cf b a = false) := by
  cases xs with
  | nil => exact ⟨[], rfl, .refl _, .nil⟩
  | cons x r =>
    letI : Inhabited α := ⟨x⟩
    have hp := pdq_sorts (ltC cf) h (x :: r).toArray 0 (x :: r).length (Go.Lib.bitLen (x :: r).length) true true (Nat.zero_le _) (by simp) (Or.inl rfl)
    refine ⟨_, by rw [sortO, if_pos h], ?_, ?_⟩
    · obtain ⟨h1, _, h3⟩ := hp.1
      rw [Array.extract_eq_self_of_le (by rw [h1]; simp), Array.extract_eq_self_of_le (by simp)] at h3
      exact h3
    · have h1 : (pdq (ltC cf) (x :: r).toArray 0 (x :: r).length (Go.Lib.bitLen (x :: r).length) true true).size = (x :: r).length := hp.1.1
      rw [List.pairwise_iff_getElem]
      intro i j hi hj hij
      have := hp.2 i j (Nat.zero_le _) hij (by rw [Array.length_toList, h1] at hj; exact hj)
      rw [getElem!_pos _ j (by simpa using hj), getElem!_pos _ i (by simpa using hi)] at this
      simpa using this
end Go.Proofs.YtgcneihmkkldeaaGreat.K
