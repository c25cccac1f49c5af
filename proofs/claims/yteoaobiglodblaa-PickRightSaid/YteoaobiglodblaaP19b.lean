/- The plain law of PickRight. No Go and no memory. -/
import Derived.Test.YteoaobiglodblaaP19
namespace Go.Proofs.Yteoaobiglodblaa
open Go K
set_option linter.unusedVariables false

theorem equal_loop (ys : List ByteArray) : ∀ (xs : List ByteArray) (n : Nat), n + xs.length = ys.length →
    runBO (F32_slices_Equal_string_string_b1 ys) xs n = some (if xs = ys.drop n then .fin (n + xs.length) else .ret false)
  | [], n, h => by
    have : ys.drop n = [] := List.drop_eq_nil_iff.2 (by simp at h; omega)
    simp [runBO, this]
  | x :: xs, n, h => by
    simp only [List.length_cons] at h
    have hn : n < ys.length := by omega
    have hd : ys.drop n = ys[n] :: ys.drop (n + 1) := List.drop_eq_getElem_cons hn
    rw [runBO]
    simp only [F32_slices_Equal_string_string_b1, ixO_at (List.getElem?_eq_getElem hn), Option.bind_some]
    by_cases e : x = ys[n]
    · simp only [e, decide_true, Bool.not_true, Bool.false_eq_true, if_false]
      rw [equal_loop ys xs (n + 1) (by omega), hd]
      by_cases e2 : xs = ys.drop (n + 1)
      · rw [if_pos e2, if_pos (by rw [e2])]; simp only [List.length_cons]; congr 2; omega
      · rw [if_neg e2, if_neg fun h => e2 (List.cons.inj h).2]
    · simp only [e, decide_false, Bool.not_false, if_true]
      rw [hd, if_neg fun h => e (List.cons.inj h).1]
theorem equal_eq (a b : List ByteArray) : F32_slices_Equal_string_string a b = some (decide (a = b)) := by
  unfold F32_slices_Equal_string_string
  by_cases h : a.length = b.length
  · rw [if_neg (by simp [h]), equal_loop b a 0 (by omega)]
    simp only [List.drop_zero, Option.bind_some]
    by_cases e : a = b
    · rw [if_pos e]; simp [Lp.elim, e]
    · rw [if_neg e]; simp [Lp.elim, e]
  · rw [if_pos (by simpa using fun e => h (by omega))]
    have : a ≠ b := fun e => h (by rw [e])
    simp [this]
theorem sameP (a b : Candidate) : ∃ q, F15_hints_Same a b = some q ∧ (a = b → q = true) := by
  unfold F15_hints_Same
  rw [equal_eq]
  simp only [lt, andO, Option.bind_some]
  by_cases e : a = b
  · subst e; exact ⟨true, by simp, fun _ => rfl⟩
  · split
    · exact ⟨_, rfl, fun h => absurd h e⟩
    · exact ⟨_, rfl, fun h => absurd h e⟩
theorem found_eq (x : Candidate) : ∀ (xs : List Candidate) (s : Bool), ∃ q, runAO (F4_linkboylaw19_PickRight_b3 x) xs s = some q ∧ (s = true ∨ x ∈ xs → q = true)
  | [], s => ⟨s, rfl, fun h => h.elim (fun h => h) fun h => by cases h⟩
  | y :: xs, s => by
    obtain ⟨q, hq, hs⟩ := sameP y x
    rw [runAO]
    have hb : F4_linkboylaw19_PickRight_b3 x y s = some (s || q) := by
      unfold F4_linkboylaw19_PickRight_b3 orO
      rw [hq]
      cases s <;> rfl
    rw [hb]
    obtain ⟨q2, h1, h2⟩ := found_eq x xs (s || q)
    refine ⟨q2, h1, fun h => h2 ?_⟩
    rcases h with h | h
    · exact .inl (by rw [h]; rfl)
    · rcases List.mem_cons.1 h with h | h
      · exact .inl (by rw [hs h.symm]; simp)
      · exact .inr h

/-- Is somebody ready that counts? -/
def someone (xs : List Candidate) (w : Want) : Bool := xs.any fun x => x.ready && (x.localF || !w.localF)
theorem someone_eq (w : Want) : ∀ (xs : List Candidate) (s : Bool), runA (F4_linkboylaw19_PickRight_b1 w) xs s = (s || someone xs w)
  | [], s => by simp [runA, someone]
  | x :: xs, s => by
    rw [runA]
    have : F4_linkboylaw19_PickRight_b1 w x s = (s || (x.ready && (x.localF || !w.localF))) := rfl
    rw [this, someone_eq w xs]
    simp [someone, Bool.or_assoc]
def fine (xs : List Candidate) (w : Want) (x : Candidate) : Prop := (w.localF = true → x.localF = true) ∧ (someone xs w = true → x.ready = true) ∧ (x.ready = true ∨ (x.serving = true ∧ x.terminating = true)) ∧ x ∈ xs
theorem usable_mem {xs : List Candidate} {x : Candidate} (h : x ∈ usable xs) : x ∈ xs ∧ (x.ready = true ∨ ((x.serving = true ∧ x.terminating = true) ∧ xs.any (·.ready) = false)) := by
  unfold usable at h
  split at h
  · have := List.mem_filter.1 h; exact ⟨this.1, .inl this.2⟩
  · rename_i h1
    have h2 := List.mem_filter.1 h
    refine ⟨h2.1, .inr ⟨by simpa using h2.2, all_any fun y hy => ?_⟩⟩
    cases hr : y.ready with
    | false => rfl
    | true =>
      have := List.length_pos_of_mem (List.mem_filter.2 ⟨hy, hr⟩ : y ∈ xs.filter (·.ready))
      exact absurd (decide_eq_true (by omega)) h1
theorem choose_fine (xs : List Candidate) (w : Want) : ∀ x ∈ choose xs w, fine xs w x := by
  intro x hx
  unfold choose at hx
  split at hx
  · rename_i hw
    obtain ⟨h1, h2⟩ := usable_mem hx
    have h3 := List.mem_filter.1 h1
    refine ⟨fun _ => h3.2, fun hs => ?_, h2.imp id (·.1), h3.1⟩
    rcases h2 with h2 | ⟨_, h2⟩
    · exact h2
    · obtain ⟨y, hy, hr⟩ := List.any_eq_true.1 hs
      rw [hw] at hr
      simp only [Bool.not_true, Bool.or_false, Bool.and_eq_true] at hr
      have : (xs.filter (·.localF)).any (·.ready) = true := List.any_eq_true.2 ⟨y, List.mem_filter.2 ⟨hy, hr.2⟩, hr.1⟩
      rw [this] at h2; cases h2
  · rename_i hw
    split at hx
    · have h3 := List.mem_filter.1 hx
      simp only [Bool.and_eq_true] at h3
      exact ⟨fun h => absurd h hw, fun _ => h3.2.1, .inl h3.2.1, h3.1⟩
    · obtain ⟨h1, h2⟩ := usable_mem hx
      refine ⟨fun h => absurd h hw, fun hs => ?_, h2.imp id (·.1), h1⟩
      rcases h2 with h2 | ⟨_, h2⟩
      · exact h2
      · obtain ⟨y, hy, hr⟩ := List.any_eq_true.1 hs
        simp only [Bool.and_eq_true] at hr
        have : xs.any (·.ready) = true := List.any_eq_true.2 ⟨y, hy, hr.1⟩
        rw [this] at h2; cases h2
theorem usable_pos {xs : List Candidate} {x : Candidate} (hx : x ∈ xs) (hr : x.ready = true) : 0 < (usable xs).length := by
  unfold usable
  have h := List.length_pos_of_mem (List.mem_filter.2 ⟨hx, hr⟩ : x ∈ xs.filter (·.ready))
  split
  · exact h
  · rename_i h1; exact absurd (decide_eq_true (by omega)) h1
theorem choose_pos (xs : List Candidate) (w : Want) (h : someone xs w = true) : 0 < (choose xs w).length := by
  obtain ⟨y, hy, hr⟩ := List.any_eq_true.1 h
  simp only [Bool.and_eq_true] at hr
  unfold choose
  split
  · rename_i hw
    rw [hw] at hr
    simp only [Bool.not_true, Bool.or_false] at hr
    exact usable_pos (List.mem_filter.2 ⟨hy, hr.2⟩) hr.1
  · split
    · have := flt_some xs w.zone
      rw [List.any_eq_true.2 ⟨y, hy, hr.1⟩, decide_eq_true_eq] at this
      omega
    · exact usable_pos hy hr.1
theorem right_loop (a0 : List Candidate) (a1 : Want) : ∀ (l : List Candidate), (∀ x ∈ l, fine a0 a1 x) → runBO (F4_linkboylaw19_PickRight_b2 a0 a1 (someone a0 a1)) l () = some (.fin ())
  | [], _ => rfl
  | x :: l, h => by
    have hx := h x (by simp)
    obtain ⟨q, hq, hf⟩ := found_eq x a0 false
    obtain rfl := hf (.inr hx.2.2.2)
    have hb : F4_linkboylaw19_PickRight_b2 a0 a1 (someone a0 a1) x () = some (.next ()) := by
      unfold F4_linkboylaw19_PickRight_b2
      rw [hq]
      obtain ⟨h1, h2, h3, _⟩ := hx
      simp only [lt]
      cases hl : a1.localF <;> cases hs : someone a0 a1 <;> cases hr : x.ready <;> cases hv : x.serving <;> cases ht : x.terminating <;> cases hxl : x.localF <;> simp_all
    rw [runBO, hb]
    exact right_loop a0 a1 l fun y hy => h y (by simp [hy])
theorem law4 (a0 : List Candidate) (a1 : Want) : F4_linkboylaw19_PickRight a0 a1 = some true := by
  unfold F4_linkboylaw19_PickRight
  rw [alive_eq]
  refine lt_if (b := F7_linkboylaw18_Long a0 || F8_linkboylaw19_long a1) fun h => ?_
  have hs := short_of (Bool.or_eq_false_iff.1 h).1
  have hr := someone_eq a1 a0 false
  rw [Bool.false_or] at hr
  rw [hr, choose_eq a0 a1 hs]
  show (runBO (F4_linkboylaw19_PickRight_b2 a0 a1 (someone a0 a1)) (choose a0 a1) ()).bind _ = _
  rw [right_loop a0 a1 _ (choose_fine a0 a1)]
  show some (!someone a0 a1 || decide ((((choose a0 a1).length : Nat) : Int) > 0)) = some true
  cases hz : someone a0 a1 with
  | false => rfl
  | true => have := choose_pos a0 a1 hz; rw [decide_eq_true (by omega)]; rfl
end Go.Proofs.Yteoaobiglodblaa
