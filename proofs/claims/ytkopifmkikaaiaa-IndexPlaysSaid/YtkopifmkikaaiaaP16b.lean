/- The plain law of IndexPlays. No Go and no memory. -/
import Derived.Test.YtkopifmkikaaiaaP16
namespace Go.Proofs.Ytkopifmkikaaiaa
open Go K
set_option linter.unusedVariables false

theorem play_loop : ∀ (acts : List Act) (n : Nat) (X : Index_2) (A : List A2Key), n + acts.length < LIM → RX n X A → ∃ s, runBO F3_IndexPla_b1 acts (X, ⟨A⟩) = some (.fin s)
  | [], n, X, A, _, _ => ⟨_, rfl⟩
  | a :: acts, n, X, A, hn, h => by
    simp only [List.length_cons] at hn
    rw [runBO]
    by_cases hk : a.kind = 0
    · obtain ⟨k, b, X', A', h1, h2, h3⟩ := put_eq h (by omega) a.slice a.owner
      obtain ⟨r, o1, o2, _, _⟩ := owners_eq h3 (by omega)
      obtain ⟨q, s1, s2, _, _⟩ := slices_eq h3 (by omega) a.owner
      have hb : F3_IndexPla_b1 a (X, ⟨A⟩) = some (.next (X', ⟨A'⟩)) := by
        unfold F3_IndexPla_b1
        rw [if_pos (by rw [decide_eq_true_iff]; exact hk)]
        simp [h1, h2, lt, len_eq h3, o1, o2, s1, s2, same_row, orO, owner_eq h3]
      rw [hb]
      exact play_loop acts (n + 1) X' A' (by omega) h3
    · obtain ⟨k, b, X', A', h1, h2, h3, _⟩ := drop_eq h (by omega) a.slice
      obtain ⟨r, o1, o2, _, _⟩ := owners_eq h3 (by omega)
      obtain ⟨q, s1, s2, _, _⟩ := slices_eq h3 (by omega) a.owner
      have hb : F3_IndexPla_b1 a (X, ⟨A⟩) = some (.next (X', ⟨A'⟩)) := by
        unfold F3_IndexPla_b1
        rw [if_neg (by rw [decide_eq_true_iff]; exact hk)]
        simp [h1, h2, lt, len_eq h3, o1, o2, s1, s2, same_row, orO, owner_eq h3]
      rw [hb]
      exact play_loop acts n X' A' (by omega) h3
theorem law_plays (a0 : List Act) : F3_IndexPla a0 = some true := by
  have hL : (100 : Nat) < LIM := by decide
  unfold F3_IndexPla
  rw [alive16]
  simp only [Option.bind_some, Bool.not_true, Bool.false_eq_true, if_false, lt]
  by_cases hl : F6_Long a0 = true
  · rw [if_pos hl]
  · rw [if_neg hl]
    have := long_len (by simpa using hl)
    obtain ⟨s, hs⟩ := play_loop a0 0 ⟨[], []⟩ [] (by omega) RX.nil
    have : runBO F3_IndexPla_b1 a0 (F7_New, ({ all := [] } : Index_3)) = some (.fin s) := hs
    rw [this]; rfl
end Go.Proofs.Ytkopifmkikaaiaa
