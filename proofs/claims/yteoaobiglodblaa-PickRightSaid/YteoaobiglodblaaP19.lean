/- The plain laws of chapter 19: what the printed functions of PickChooses and PickRight answer. No Go and no memory. -/
import Derived.Test.YteoaobiglodblaaS1
import Derived.Test.YteoaobiglodblaaY
namespace Go.Proofs.Yteoaobiglodblaa
open Go K
set_option linter.unusedVariables false

theorem lim_fuel {n : Nat} (h : n < LIM) : n < FUEL := Nat.lt_trans h (by decide)
theorem clone_eq (xs : List Candidate) (h : xs.length < LIM) : F42_slices_Clone_hints_Candidate_hints_Candi xs = some xs := by
  unfold F42_slices_Clone_hints_Candidate_hints_Candi
  rw [apO_ok (by simpa using h)]; simp
theorem delete_eq (xs : List Candidate) (f : Candidate → Bool) (h : xs.length < LIM) : F41_slices_DeleteFunc_hints_Candidate_hints_ xs f = some (xs.filter fun x => !f x) := delG_eq Candidate.z xs f (lim_fuel h)
theorem those_eq (xs : List Candidate) (p : Candidate → Bool) (h : xs.length < LIM) : F25_pick_those xs p = some (xs.filter p) := by
  unfold F25_pick_those
  rw [clone_eq xs h]
  simp only [Option.bind_some]
  rw [delete_eq xs _ h]
  simp only [Option.bind_some, F43_pick_those_1, Bool.not_not]
theorem kept_eq (xs : List Candidate) (p : Candidate → Bool) (h : xs.length < LIM) : F47_hints_kept xs p = some (xs.filter p) := by
  unfold F47_hints_kept
  rw [clone_eq xs h]
  simp only [Option.bind_some]
  rw [delete_eq xs _ h]
  simp only [Option.bind_some, F62_hints_kept_1, Bool.not_not]

def usable (xs : List Candidate) : List Candidate := if decide ((((xs.filter (·.ready)).length : Nat) : Int) > 0) = true then xs.filter (·.ready) else xs.filter fun x => x.serving && x.terminating
theorem usable_eq (xs : List Candidate) (h : xs.length < LIM) : F11_pick_Usable xs = some (usable xs) := by
  unfold F11_pick_Usable usable
  rw [those_eq xs _ h, those_eq xs _ h]
  simp only [Option.bind_some, F26_pick_ready, F27_pick_leaving, lt]
  split <;> rfl
theorem usable_len (xs : List Candidate) : (usable xs).length ≤ xs.length := by
  unfold usable; split <;> exact List.length_filter_le _ _
theorem of_eq (xs : List Candidate) (h : xs.length < LIM) : F9_linkboylaw18_Of xs = some xs := by
  unfold F9_linkboylaw18_Of
  rw [runAO_gather (fun _ => true) id (fun x s hs => by simp [F9_linkboylaw18_Of_b1, ap1_ok hs]) xs [] (by simpa using h)]
  simp
theorem usableR_loop : ∀ (xs a b : List Candidate), a.length + xs.length < LIM → b.length + xs.length < LIM →
    runAO F12_linkboyref19_Usable_b1 xs (a, b) = some (a ++ xs.filter (·.ready), b ++ xs.filter fun x => x.serving && x.terminating)
  | [], a, b, _, _ => by simp [runAO]
  | x :: xs, a, b, h1, h2 => by
    simp only [List.length_cons] at h1 h2
    have e1 : apO a [x] = some (a ++ [x]) := ap1_ok (by omega)
    have e2 : apO b [x] = some (b ++ [x]) := ap1_ok (by omega)
    rw [runAO]
    have hb : F12_linkboyref19_Usable_b1 x (a, b) = some (a ++ [x].filter (·.ready), b ++ [x].filter fun x => x.serving && x.terminating) := by
      simp only [F12_linkboyref19_Usable_b1, e1, e2, lt, Option.bind_some]
      cases hr : x.ready <;> cases hs : x.serving <;> cases ht : x.terminating <;> simp [List.filter, hr, hs, ht]
    rw [hb]
    simp only
    have hl1 : ([x].filter (·.ready)).length ≤ 1 := List.length_filter_le _ [x]
    have hl2 : ([x].filter fun x => x.serving && x.terminating).length ≤ 1 := List.length_filter_le _ [x]
    rw [usableR_loop xs _ _ (by rw [List.length_append]; omega) (by rw [List.length_append]; omega)]
    rw [List.append_assoc, List.append_assoc, ← List.filter_append, ← List.filter_append]; rfl
theorem usableR_eq (xs : List Candidate) (h : xs.length < LIM) : F12_linkboyref19_Usable xs = some (usable xs) := by
  unfold F12_linkboyref19_Usable usable
  rw [usableR_loop xs [] [] (by simpa using h) (by simpa using h)]
  simp only [Option.bind_some, List.nil_append]
  split <;> rfl

theorem texts_self (zs : List ByteArray) : F40_linkboynum_SameTexts zs zs = some true := by
  unfold F40_linkboynum_SameTexts
  rw [if_neg (by simp), runBO_all (ρ := Bool) zs 0 fun i x hx => by simp [F40_linkboynum_SameTexts_b1, ixO_at hx]]
  rfl
theorem same_self (x : Candidate) : F24_linkboyref18_Same x x = some true := by
  unfold F24_linkboyref18_Same
  rw [texts_self]
  simp [lt, andO]
theorem all_self (xs : List Candidate) : F10_linkboyref18_All xs xs = some true := by
  unfold F10_linkboyref18_All
  rw [if_neg (by simp), runBO_all (ρ := Bool) xs 0 fun i x hx => by simp [F10_linkboyref18_All_b1, ixO_at hx, same_self]]
  rfl

/-- Meant for a zone. -/
def meant (x : Candidate) (z : ByteArray) : Bool := x.zones.any fun y => decide (z = y)
theorem meant_eq (x : Candidate) (z : ByteArray) : F49_hints_Meant x z = meant x z := by
  show decide (idxG x.zones (fun y => decide (z = y)) ≥ 0) = meant x z
  exact idxG_some _ _
theorem meantR_eq (x : Candidate) (z : ByteArray) : F51_linkboyref18_Meant x z = meant x z := by
  simp only [F51_linkboyref18_Meant, lt]
  rw [runB_any (fun y => decide (y = z)) (fun y => rfl)]
  rw [any_elim rfl]
  unfold meant
  congr 1; funext y; exact decide_eq_decide.2 eq_comm
theorem contains_eq (xs : List Candidate) (f : Candidate → Bool) : F29_slices_ContainsFunc_hints_Candidate_hint xs f = xs.any f := idxG_some xs f

def ready (xs : List Candidate) : List Candidate := xs.filter (·.ready)
def counts (xs : List Candidate) (z : ByteArray) : Bool := !decide (z = (⟨#[]⟩ : ByteArray)) && (!(ready xs).any fun x => decide (x.zones.length = 0)) && (ready xs).any fun x => meant x z
theorem ready_eq (xs : List Candidate) (h : xs.length < LIM) : F45_hints_ready xs = some (ready xs) := by
  unfold F45_hints_ready ready
  rw [kept_eq xs _ h]; rfl
theorem bare_eq (x : Candidate) : F60_hints_Count_1 x = decide (x.zones.length = 0) := by
  unfold F60_hints_Count_1
  exact decide_eq_decide.2 (by omega)
theorem count_eq (xs : List Candidate) (z : ByteArray) (h : xs.length < LIM) : F46_hints_Count xs z = some (counts xs z) := by
  unfold F46_hints_Count
  rw [ready_eq xs h]
  simp only [Option.bind_some, contains_eq, lt, F61_hints_Count_2, meant_eq, bare_eq, counts]
theorem countR_loop (z : ByteArray) : ∀ (xs : List Candidate) (m b : Bool), runA (F50_linkboyref18_Count_b1 z) xs (m, b) = (m || (ready xs).any fun x => meant x z, b || (ready xs).any fun x => decide (x.zones.length = 0))
  | [], m, b => by simp [runA, ready]
  | x :: xs, m, b => by
    rw [runA]
    have hb : F50_linkboyref18_Count_b1 z x (m, b) = if x.ready = true then (m || meant x z, b || decide (x.zones.length = 0)) else (m, b) := by
      simp only [F50_linkboyref18_Count_b1, lt, meantR_eq]
      have : decide (((x.zones.length : Nat) : Int) = 0) = decide (x.zones.length = 0) := decide_eq_decide.2 (by omega)
      rw [this]
    rw [hb]
    cases hr : x.ready
    · simp only [Bool.false_eq_true, if_false]
      rw [countR_loop z xs]; simp [ready, hr]
    · simp only [if_true]
      rw [countR_loop z xs]; simp [ready, hr, Bool.or_assoc]
theorem countR_eq (xs : List Candidate) (z : ByteArray) : F50_linkboyref18_Count xs z = counts xs z := by
  simp only [F50_linkboyref18_Count, lt]
  rw [countR_loop]
  simp only [counts, Bool.false_or]
  cases (ready xs).any fun x => meant x z <;> cases (ready xs).any fun x => decide (x.zones.length = 0) <;> cases decide (z = (⟨#[]⟩ : ByteArray)) <;> rfl

def flt (xs : List Candidate) (z : ByteArray) : List Candidate := xs.filter fun x => x.ready && (!counts xs z || meant x z)
theorem filter_eq (xs : List Candidate) (z : ByteArray) (h : xs.length < LIM) : F30_hints_Filter xs z = some (flt xs z) := by
  unfold F30_hints_Filter
  rw [ready_eq xs h, count_eq xs z h]
  simp only [Option.bind_some]
  have hr : (ready xs).length < LIM := Nat.lt_of_le_of_lt (List.length_filter_le _ _) h
  rw [kept_eq _ _ hr]
  unfold flt
  cases counts xs z
  · simp [ready]
  · simp only [Bool.not_true, Bool.false_eq_true, if_false, Option.bind_some, F48_hints_Filter_1, lt, meant_eq, ready, List.filter_filter, Bool.false_or]
    congr 2; funext x; exact Bool.and_comm _ _
theorem filterR_eq (xs : List Candidate) (z : ByteArray) (h : xs.length < LIM) : F31_linkboyref18_Filter xs z = some (flt xs z) := by
  simp only [F31_linkboyref18_Filter, lt]
  rw [countR_eq, runAO_gather (fun x => x.ready && (!counts xs z || meant x z)) id (fun x s hs => by simp only [F31_linkboyref18_Filter_b1, lt, meantR_eq, ap1_ok hs, Option.bind_some, id]; split <;> rfl) xs [] (by simpa using h)]
  simp [flt]
/-- Some are left just where some are ready. -/
theorem flt_some (xs : List Candidate) (z : ByteArray) : decide ((((flt xs z).length : Nat) : Int) > 0) = xs.any (·.ready) := by
  rw [Bool.eq_iff_iff, decide_eq_true_eq, List.any_eq_true]
  constructor
  · intro h
    obtain ⟨x, hx⟩ : ∃ x, x ∈ flt xs z := List.exists_mem_of_length_pos (by omega)
    have := List.mem_filter.1 hx
    simp only [Bool.and_eq_true] at this
    exact ⟨x, this.1, this.2.1⟩
  · rintro ⟨x, hx, hr⟩
    have hpos : 0 < (flt xs z).length := by
      cases hc : counts xs z with
      | false => exact List.length_pos_of_mem (List.mem_filter.2 ⟨hx, by simp [hr, hc]⟩)
      | true =>
        have h2 := hc
        simp only [counts, Bool.and_eq_true] at h2
        obtain ⟨y, hy, hm⟩ := List.any_eq_true.1 h2.2
        have := List.mem_filter.1 hy
        exact List.length_pos_of_mem (List.mem_filter.2 ⟨this.1, by rw [this.2, hm]; simp⟩)
    omega

def choose (xs : List Candidate) (w : Want) : List Candidate := if w.localF = true then usable (xs.filter (·.localF)) else if (w.hinted && xs.any (·.ready)) = true then flt xs w.zone else usable xs
theorem choose_eq (xs : List Candidate) (w : Want) (h : xs.length < LIM) : F13_pick_Choose xs w = some (choose xs w) := by
  unfold F13_pick_Choose choose
  have hl : (xs.filter (·.localF)).length < LIM := Nat.lt_of_le_of_lt (List.length_filter_le _ _) h
  have h1 : F25_pick_those xs (fun x0 => F28_pick_local x0) = some (xs.filter (·.localF)) := those_eq xs _ h
  rw [h1]
  simp only [Option.bind_some, usable_eq _ hl, usable_eq _ h, filter_eq _ _ h, contains_eq, lt, F26_pick_ready]
  split
  · rfl
  · split <;> rfl
theorem chooseR_eq (xs : List Candidate) (w : Want) (h : xs.length < LIM) : F14_linkboyref19_Choose xs w = some (choose xs w) := by
  unfold F14_linkboyref19_Choose choose
  have hl : (xs.filter (·.localF)).length < LIM := Nat.lt_of_le_of_lt (List.length_filter_le _ _) h
  rw [runAO_gather (·.localF) id (fun x s hs => by simp only [F14_linkboyref19_Choose_b1, ap1_ok hs, Option.bind_some, id]; split <;> rfl) xs [] (by simpa using h)]
  simp only [Option.bind_some, List.nil_append, List.map_id, usableR_eq _ hl, usableR_eq _ h, filterR_eq _ _ h, lt, flt_some]
  split
  · rfl
  · split <;> rfl
theorem choose_len (xs : List Candidate) (w : Want) : (choose xs w).length ≤ xs.length := by
  unfold choose
  split
  · exact Nat.le_trans (usable_len _) (List.length_filter_le _ _)
  · split
    · exact List.length_filter_le _ _
    · exact usable_len _

theorem alive_eq : F6_linkboylaw19_alive = some true := by
  unfold F6_linkboylaw19_alive
  rw [usable_eq _ (by decide)]
  rfl
theorem short_of {xs : List Candidate} (h : F7_linkboylaw18_Long xs = false) : xs.length < LIM := by
  unfold F7_linkboylaw18_Long at h
  split at h
  · cases h
  · rename_i h1
    have : xs.length ≤ 60 := by simp at h1; omega
    exact Nat.lt_of_le_of_lt this (by decide)

theorem lt_if {b : Bool} {k : Option Bool} (h : b = false → k = some true) : lt b (fun b => if b = true then some true else k) = some true := by
  cases b with
  | true => rfl
  | false => exact h rfl
theorem law3 (a0 : List Candidate) (a1 : Want) : F3_linkboylaw19_PickChooses a0 a1 = some true := by
  unfold F3_linkboylaw19_PickChooses
  rw [alive_eq]
  refine lt_if (b := F7_linkboylaw18_Long a0 || F8_linkboylaw19_long a1) fun h => ?_
  have hs := short_of (Bool.or_eq_false_iff.1 h).1
  have hu := Nat.lt_of_le_of_lt (usable_len a0) hs
  have hc := Nat.lt_of_le_of_lt (choose_len a0 a1) hs
  simp only [of_eq a0 hs, usable_eq a0 hs, Option.bind_some, of_eq _ hu, usableR_eq a0 hs, all_self, choose_eq a0 a1 hs, of_eq _ hc, chooseR_eq a0 a1 hs]
  rfl
end Go.Proofs.Yteoaobiglodblaa
