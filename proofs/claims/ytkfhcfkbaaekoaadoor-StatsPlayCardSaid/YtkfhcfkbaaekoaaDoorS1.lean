/- Plain laws of the words in which the printed functions are written, and of library functions printed in them. No program is named. -/
import Derived.Test.YtkfhcfkbaaekoaaDoorS0
import Derived.Test.YtkfhcfkbaaekoaaDoorK4
namespace Go.Proofs.YtkfhcfkbaaekoaaDoor.K
open Go
set_option linter.unusedVariables false
def LIM : Nat := 4294967296
section
variable {α β ρ σ : Type}
theorem apO_ok {xs ys : List α} (h : xs.length + ys.length < LIM) : apO xs ys = some (xs ++ ys) := if_pos h
theorem ap1_ok {xs : List α} {x : α} (h : xs.length + 1 < LIM) : apO xs [x] = some (xs ++ [x]) := apO_ok (by simpa using h)
theorem ixO_at {xs : List α} {i : Nat} {x : α} (h : xs[i]? = some x) : ixO xs (i : Int) = some x := by
  unfold ixO; rw [if_pos (by omega)]; simpa using h
theorem slO_ok {xs : List α} {lo hi : Nat} (h1 : lo ≤ hi) (h2 : hi ≤ xs.length) : slO xs (lo : Int) (hi : Int) = some ((xs.drop lo).take (hi - lo)) := by
  unfold slO
  rw [if_pos ⟨by omega, by omega, by omega⟩]
  congr 2; omega
theorem runAO_gather {body : α → List β → Option (List β)} (p : α → Bool) (g : α → β) (hb : ∀ x s, s.length + 1 < LIM → body x s = some (if p x = true then s ++ [g x] else s)) :
    ∀ (xs : List α) (s : List β), s.length + xs.length < LIM → runAO body xs s = some (s ++ (xs.filter p).map g)
  | [], s, _ => by simp [runAO]
  | x :: xs, s, h => by
    simp only [List.length_cons] at h
    rw [runAO, hb x s (by omega)]
    simp only
    cases hp : p x
    · simp only [Bool.false_eq_true, if_false, List.filter_cons, hp]
      exact runAO_gather p g hb xs s (by omega)
    · simp only [if_true, List.filter_cons, hp, List.map_cons]
      rw [runAO_gather p g hb xs _ (by simp; omega)]
      simp
theorem runA_eq {body : α → σ → σ} : ∀ (xs : List α) (s : σ), runA body xs s = xs.foldl (fun s x => body x s) s
  | [], s => rfl
  | x :: xs, s => runA_eq xs _
def idxB (f : α → Bool) (x : α) (s : Nat) : Step Int Nat := if f x = true then .ret ((s : Nat) : Int) else .next (s + 1)
def idxG (xs : List α) (f : α → Bool) : Int := lt (runB (idxB f) xs 0) fun o => o.elim (fun r => r) fun (s : Nat) => (-1)
def delB (f : α → Bool) (s : Int × Int × List α) : Option (Step Empty (Int × Int × List α)) :=
  if (decide (s.2.1 < ((s.2.2.length : Nat) : Int))) = true then (ixO s.2.2 s.2.1).bind fun y => if (!(f y)) = true then (ixO s.2.2 s.1).bind fun _ => some (.next (IntKind.i64.wrap (s.1 + 1), IntKind.i64.wrap (s.2.1 + 1), s.2.2.set s.1.toNat y)) else some (.next (s.1, IntKind.i64.wrap (s.2.1 + 1), s.2.2)) else some (.fin (s.1, s.2.1, s.2.2))
def delG (z : α) (xs : List α) (f : α → Bool) : Option (List α) := lt (idxG xs f) fun y => if (decide (y = (-1))) = true then some xs else (runW (delB f) FUEL (y, IntKind.i64.wrap (y + 1), xs)).bind fun o => o.elim (fun r => r.elim) fun (s : Int × Int × List α) =>
  (slO s.2.2 s.1 ((s.2.2.length : Nat) : Int)).bind fun _ => (slO (s.2.2.take s.1.toNat ++ List.replicate (s.2.2.length - s.1.toNat) z) 0 s.1).bind fun y => some y
theorem runBO_all {body : α → Nat → Option (Step ρ Nat)} : ∀ (xs : List α) (n : Nat), (∀ i x, xs[i]? = some x → body x (n + i) = some (.next (n + i + 1))) → runBO body xs n = some (.fin (n + xs.length))
  | [], n, _ => by simp [runBO]
  | x :: xs, n, h => by
    have h0 := h 0 x rfl
    rw [Nat.add_zero] at h0
    rw [runBO, h0]
    simp only
    rw [runBO_all xs (n + 1) fun i y hy => ?_]
    · simp; omega
    · have := h (i + 1) y (by simpa using hy)
      rw [show n + 1 + i = n + (i + 1) by omega]; exact this
end
end Go.Proofs.YtkfhcfkbaaekoaaDoor.K
