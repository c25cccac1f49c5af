/- The plain laws of chapter 19: what the printed functions of PickChooses and PickRight answer. No Go and no memory. -/
import Derived.Test.YtgcneihmkkldeaaGreatPH
namespace Go.Proofs.YtgcneihmkkldeaaGreat
open Go K
set_option linter.unusedVariables false

theorem those_eq (xs : List Candidate) (p : Candidate → Bool) (h : xs.length < LIM) : F66_those xs p = some (xs.filter p) := by
  unfold F66_those
  rw [clone_eq xs h]
  simp only [Option.bind_some]
  rw [delete_eq xs _ h]
  simp only [Option.bind_some, F91_1, Bool.not_not]
def usable (xs : List Candidate) : List Candidate := if decide ((((xs.filter (·.ready)).length : Nat) : Int) > 0) = true then xs.filter (·.ready) else xs.filter fun x => x.serving && x.terminating
theorem usable_eq (xs : List Candidate) (h : xs.length < LIM) : F65_Usable xs = some (usable xs) := by
  unfold F65_Usable usable
  rw [those_eq xs _ h, those_eq xs _ h]
  simp only [Option.bind_some, F69_ready, F88_leaving, lt]
  split <;> rfl
theorem usable_len (xs : List Candidate) : (usable xs).length ≤ xs.length := by
  unfold usable; split <;> exact List.length_filter_le _ _
theorem usableR_loop : ∀ (xs a b : List Candidate), a.length + xs.length < LIM → b.length + xs.length < LIM →
    runAO F82_Usable_b1 xs (a, b) = some (a ++ xs.filter (·.ready), b ++ xs.filter fun x => x.serving && x.terminating)
  | [], a, b, _, _ => by simp [runAO]
  | x :: xs, a, b, h1, h2 => by
    simp only [List.length_cons] at h1 h2
    have e1 : apO a [x] = some (a ++ [x]) := ap1_ok (by omega)
    have e2 : apO b [x] = some (b ++ [x]) := ap1_ok (by omega)
    rw [runAO]
    have hb : F82_Usable_b1 x (a, b) = some (a ++ [x].filter (·.ready), b ++ [x].filter fun x => x.serving && x.terminating) := by
      simp only [F82_Usable_b1, e1, e2, lt, Option.bind_some]
      cases hr : x.ready <;> cases hs : x.serving <;> cases ht : x.terminating <;> simp [List.filter, hr, hs, ht]
    rw [hb]
    simp only
    have hl1 : ([x].filter (·.ready)).length ≤ 1 := List.length_filter_le _ [x]
    have hl2 : ([x].filter fun x => x.serving && x.terminating).length ≤ 1 := List.length_filter_le _ [x]
    rw [usableR_loop xs _ _ (by rw [List.length_append]; omega) (by rw [List.length_append]; omega)]
    rw [List.append_assoc, List.append_assoc, ← List.filter_append, ← List.filter_append]; rfl
theorem usableR_eq (xs : List Candidate) (h : xs.length < LIM) : F82_Usable xs = some (usable xs) := by
  unfold F82_Usable usable
  rw [usableR_loop xs [] [] (by simpa using h) (by simpa using h)]
  simp only [Option.bind_some, List.nil_append]
  split <;> rfl

def choose (xs : List Candidate) (w : Want) : List Candidate := if w.localF = true then usable (xs.filter (·.localF)) else if (w.hinted && xs.any (·.ready)) = true then flt xs w.zone else usable xs
theorem choose_eq (xs : List Candidate) (w : Want) (h : xs.length < LIM) : F47_Choose xs w = some (choose xs w) := by
  unfold F47_Choose choose
  have hl : (xs.filter (·.localF)).length < LIM := Nat.lt_of_le_of_lt (List.length_filter_le _ _) h
  have h1 : F66_those xs (fun x0 => F67_local x0) = some (xs.filter (·.localF)) := those_eq xs _ h
  rw [h1]
  simp only [Option.bind_some, usable_eq _ hl, usable_eq _ h, filter_eq _ _ h, contains_eq, lt, F69_ready]
  split
  · rfl
  · split <;> rfl
theorem chooseR_eq (xs : List Candidate) (w : Want) (h : xs.length < LIM) : F56_Choose xs w = some (choose xs w) := by
  unfold F56_Choose choose
  have hl : (xs.filter (·.localF)).length < LIM := Nat.lt_of_le_of_lt (List.length_filter_le _ _) h
  rw [runAO_gather (·.localF) id (fun x s hs => by simp only [F56_Choose_b1, ap1_ok hs, Option.bind_some, id]; split <;> rfl) xs [] (by simpa using h)]
  simp only [Option.bind_some, List.nil_append, List.map_id, usableR_eq _ hl, usableR_eq _ h, filterR_eq _ _ h, lt, flt_some]
  split
  · rfl
  · split <;> rfl
theorem choose_len (xs : List Candidate) (w : Want) : (choose xs w).length ≤ xs.length := by
  unfold choose
  split
  · exact Nat.le_trans (usable_len _) (List.length_filter_le _ _)
  · split
    · exact List.length_filter_le _ _
    · exact usable_len _

end Go.Proofs.YtgcneihmkkldeaaGreat
