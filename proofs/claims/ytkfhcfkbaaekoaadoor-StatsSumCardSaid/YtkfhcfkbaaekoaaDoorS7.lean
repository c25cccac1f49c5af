/- slices.Equal in plain words. No program is named. -/
import Derived.Test.YtkfhcfkbaaekoaaDoorS6
namespace Go.Proofs.YtkfhcfkbaaekoaaDoor.K
open Go
set_option linter.unusedVariables false

section
variable {α : Type} [DecidableEq α]
def eqB (ys : List α) (x : α) (s : Nat) : Option (Step Bool Nat) := (ixO ys ((s : Nat) : Int)).bind fun y => (if (!decide (x = y)) = true then some (.ret false) else some (.next (s + 1)))
def eqG (xs ys : List α) : Option Bool := (if (!decide (((xs.length : Nat) : Int) = ((ys.length : Nat) : Int))) = true then some false else (runBO (eqB ys) xs 0).bind fun o => o.elim (fun r => some r) fun (s : Nat) => some true)
theorem eqB_loop (ys : List α) : ∀ (xs : List α) (n : Nat), n + xs.length = ys.length → runBO (eqB ys) xs n = some (if xs = ys.drop n then .fin (n + xs.length) else .ret false)
  | [], n, h => by
    have : ys.drop n = [] := List.drop_eq_nil_iff.2 (by simp at h; omega)
    simp [runBO, this]
  | x :: xs, n, h => by
    simp only [List.length_cons] at h
    have hn : n < ys.length := by omega
    have hd : ys.drop n = ys[n] :: ys.drop (n + 1) := List.drop_eq_getElem_cons hn
    rw [runBO]
    simp only [eqB, ixO_at (List.getElem?_eq_getElem hn), Option.bind_some]
    by_cases e : x = ys[n]
    · simp only [e, decide_true, Bool.not_true, Bool.false_eq_true, if_false]
      rw [eqB_loop ys xs (n + 1) (by omega), hd]
      by_cases e2 : xs = ys.drop (n + 1)
      · rw [if_pos e2, if_pos (by rw [e2])]; simp only [List.length_cons]; congr 2; omega
      · rw [if_neg e2, if_neg fun h => e2 (List.cons.inj h).2]
    · simp only [e, decide_false, Bool.not_false, if_true]
      rw [hd, if_neg fun h => e (List.cons.inj h).1]
theorem eqG_eq (a b : List α) : eqG a b = some (decide (a = b)) := by
  unfold eqG
  by_cases h : a.length = b.length
  · rw [if_neg (by simp [h]), eqB_loop b a 0 (by omega)]
    simp only [List.drop_zero, Option.bind_some]
    by_cases e : a = b
    · rw [if_pos e]; simp [Lp.elim, e]
    · rw [if_neg e]; simp [Lp.elim, e]
  · rw [if_pos (by simpa using fun e => h (by omega))]
    have : a ≠ b := fun e => h (by rw [e])
    simp [this]
end
end Go.Proofs.YtkfhcfkbaaekoaaDoor.K
