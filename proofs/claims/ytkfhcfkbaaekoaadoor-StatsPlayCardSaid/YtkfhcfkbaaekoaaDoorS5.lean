/- What the library's sort leaves of a list, by a comparison that is a strict weak order: a permutation in order. No program is named. -/
import Derived.Test.YtkfhcfkbaaekoaaDoorS4
import Derived.Sort.AssemblyPlain
import Derived.Lib.BitFns
namespace Go.Proofs.YtkfhcfkbaaekoaaDoor.K
open Go Go.Sort
set_option linter.unusedVariables false
def ltC {α : Type} (cf : α → α → Int) (x y : α) : Bool := decide (cf x y < 0)
open Classical in
noncomputable def sortO {α : Type} (xs : List α) (cf : α → α → Int) : Option (List α) :=
  match xs with
  | [] => some []
  | x :: r => if SWO (ltC cf) then some (@pdq α ⟨x⟩ (ltC cf) (x :: r).toArray 0 (x :: r).length (Go.Lib.bitLen (x :: r).length) true true).toList else none
theorem sortO_spec {α : Type} {cf : α → α → Int} (h : SWO (ltC cf)) (xs : List α) : ∃ ys, sortO xs cf = some ys ∧ ys.Perm xs ∧ ys.Pairwise (fun a b => ltC cf b a = false) := by
  cases xs with
  | nil => exact ⟨[], rfl, .refl _, .nil⟩
  | cons x r =>
    letI : Inhabited α := ⟨x⟩
    have hp := pdq_sorts (ltC cf) h (x :: r).toArray 0 (x :: r).length (Go.Lib.bitLen (x :: r).length) true true (Nat.zero_le _) (by simp) (Or.inl rfl)
    refine ⟨_, by rw [sortO, if_pos h], ?_, ?_⟩
    · obtain ⟨h1, _, h3⟩ := hp.1
      rw [Array.extract_eq_self_of_le (by rw [h1]; simp), Array.extract_eq_self_of_le (by simp)] at h3
      exact h3
    · have h1 : (pdq (ltC cf) (x :: r).toArray 0 (x :: r).length (Go.Lib.bitLen (x :: r).length) true true).size = (x :: r).length := hp.1.1
      rw [List.pairwise_iff_getElem]
      intro i j hi hj hij
      have := hp.2 i j (Nat.zero_le _) hij (by rw [Array.length_toList, h1] at hj; exact hj)
      rw [getElem!_pos _ j (by simpa using hj), getElem!_pos _ i (by simpa using hi)] at this
      simpa using this
noncomputable def anyPerm {α β : Type} (xs : List α) (f : List α → Option β) : Option β :=
  open Classical in if h : xs.length < 4294967296 ∧ ∃ r, ∀ ys, ys.Perm xs → f ys = some r then some (Classical.choose h.2) else none
theorem anyPerm_lt {α β : Type} {xs : List α} {f : List α → Option β} {r : β} (h : anyPerm xs f = some r) : xs.length < 4294967296 := by
  unfold anyPerm at h
  split at h
  · rename_i h'; exact h'.1
  · cases h
theorem anyPerm_el {α β : Type} {xs ys : List α} {f : List α → Option β} {r : β} (h : anyPerm xs f = some r) (hp : ys.Perm xs) : f ys = some r := by
  unfold anyPerm at h
  split at h
  · rename_i h'
    rw [← h]; exact Classical.choose_spec h'.2 ys hp
  · cases h
theorem anyPerm_eq {α β : Type} {xs : List α} {f : List α → Option β} {r : β} (hl : xs.length < 4294967296) (h : ∀ ys, ys.Perm xs → f ys = some r) : anyPerm xs f = some r := by
  have h' : xs.length < 4294967296 ∧ ∃ r, ∀ ys, ys.Perm xs → f ys = some r := ⟨hl, r, h⟩
  unfold anyPerm
  rw [dif_pos h']
  have := Classical.choose_spec h'.2 xs (.refl _)
  rw [h xs (.refl _)] at this
  exact this.symm
noncomputable def anyOf {α β : Type} (D : Prop) (f : α → Option β) : Option β :=
  open Classical in if h : D ∧ ∃ r, ∀ x, f x = some r then some (Classical.choose h.2) else none
end Go.Proofs.YtkfhcfkbaaekoaaDoor.K
