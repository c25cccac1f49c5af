/- The plain laws of the hints: what the printed functions of the program and of the reference answer. No Go and no memory. -/
import Derived.Test.YtgcneihmkkldeaaGreatS2
import Derived.Test.YtgcneihmkkldeaaGreatY
namespace Go.Proofs.YtgcneihmkkldeaaGreat
open Go K
set_option linter.unusedVariables false

theorem lim_fuel {n : Nat} (h : n < LIM) : n < FUEL := Nat.lt_trans h (by decide)
theorem clone_eq (xs : List Candidate) (h : xs.length < LIM) : F90_Candidat xs = some xs := by
  unfold F90_Candidat
  rw [apO_ok (by simpa using h)]; simp
theorem delete_eq (xs : List Candidate) (f : Candidate → Bool) (h : xs.length < LIM) : F89_Candidat xs f = some (xs.filter fun x => !f x) := delG_eq Candidate.z xs f (lim_fuel h)
theorem kept_eq (xs : List Candidate) (p : Candidate → Bool) (h : xs.length < LIM) : F95_kept xs p = some (xs.filter p) := by
  unfold F95_kept
  rw [clone_eq xs h]
  simp only [Option.bind_some]
  rw [delete_eq xs _ h]
  simp only [Option.bind_some, F120_1, Bool.not_not]

def meant (x : Candidate) (z : ByteArray) : Bool := x.zones.any fun y => decide (z = y)
theorem meant_eq (x : Candidate) (z : ByteArray) : F97_Meant x z = meant x z := by
  show decide (idxG x.zones (fun y => decide (z = y)) ≥ 0) = meant x z
  exact idxG_some _ _
theorem meantR_eq (x : Candidate) (z : ByteArray) : F105_Meant x z = meant x z := by
  simp only [F105_Meant, lt]
  rw [runB_any (fun y => decide (y = z)) (fun y => rfl)]
  rw [any_elim rfl]
  unfold meant
  congr 1; funext y; exact decide_eq_decide.2 eq_comm
theorem contains_eq (xs : List Candidate) (f : Candidate → Bool) : F68_Candidat xs f = xs.any f := idxG_some xs f

def ready (xs : List Candidate) : List Candidate := xs.filter (·.ready)
def counts (xs : List Candidate) (z : ByteArray) : Bool := !decide (z = (⟨#[]⟩ : ByteArray)) && (!(ready xs).any fun x => decide (x.zones.length = 0)) && (ready xs).any fun x => meant x z
theorem ready_eq (xs : List Candidate) (h : xs.length < LIM) : F93_ready xs = some (ready xs) := by
  unfold F93_ready ready
  rw [kept_eq xs _ h]; rfl
theorem bare_eq (x : Candidate) : F118_1 x = decide (x.zones.length = 0) := by
  unfold F118_1
  exact decide_eq_decide.2 (by omega)
theorem count_eq (xs : List Candidate) (z : ByteArray) (h : xs.length < LIM) : F94_Count xs z = some (counts xs z) := by
  unfold F94_Count
  rw [ready_eq xs h]
  simp only [Option.bind_some, contains_eq, lt, F119_2, meant_eq, bare_eq, counts]
theorem countR_loop (z : ByteArray) : ∀ (xs : List Candidate) (m b : Bool), runA (F104_Count_b1 z) xs (m, b) = (m || (ready xs).any fun x => meant x z, b || (ready xs).any fun x => decide (x.zones.length = 0))
  | [], m, b => by simp [runA, ready]
  | x :: xs, m, b => by
    rw [runA]
    have hb : F104_Count_b1 z x (m, b) = if x.ready = true then (m || meant x z, b || decide (x.zones.length = 0)) else (m, b) := by
      simp only [F104_Count_b1, lt, meantR_eq]
      have : decide (((x.zones.length : Nat) : Int) = 0) = decide (x.zones.length = 0) := decide_eq_decide.2 (by omega)
      rw [this]
    rw [hb]
    cases hr : x.ready
    · simp only [Bool.false_eq_true, if_false]
      rw [countR_loop z xs]; simp [ready, hr]
    · simp only [if_true]
      rw [countR_loop z xs]; simp [ready, hr, Bool.or_assoc]
theorem countR_eq (xs : List Candidate) (z : ByteArray) : F104_Count xs z = counts xs z := by
  simp only [F104_Count, lt]
  rw [countR_loop]
  simp only [counts, Bool.false_or]
  cases (ready xs).any fun x => meant x z <;> cases (ready xs).any fun x => decide (x.zones.length = 0) <;> cases decide (z = (⟨#[]⟩ : ByteArray)) <;> rfl

def flt (xs : List Candidate) (z : ByteArray) : List Candidate := xs.filter fun x => x.ready && (!counts xs z || meant x z)
theorem filter_eq (xs : List Candidate) (z : ByteArray) (h : xs.length < LIM) : F70_Filter xs z = some (flt xs z) := by
  unfold F70_Filter
  rw [ready_eq xs h, count_eq xs z h]
  simp only [Option.bind_some]
  have hr : (ready xs).length < LIM := Nat.lt_of_le_of_lt (List.length_filter_le _ _) h
  rw [kept_eq _ _ hr]
  unfold flt
  cases counts xs z
  · simp [ready]
  · simp only [Bool.not_true, Bool.false_eq_true, if_false, Option.bind_some, F96_1, lt, meant_eq, ready, List.filter_filter, Bool.false_or]
    congr 2; funext x; exact Bool.and_comm _ _
theorem filterR_eq (xs : List Candidate) (z : ByteArray) (h : xs.length < LIM) : F83_Filter xs z = some (flt xs z) := by
  simp only [F83_Filter, lt]
  rw [countR_eq, runAO_gather (fun x => x.ready && (!counts xs z || meant x z)) id (fun x s hs => by simp only [F83_Filter_b1, lt, meantR_eq, ap1_ok hs, Option.bind_some, id]; split <;> rfl) xs [] (by simpa using h)]
  simp [flt]
theorem flt_some (xs : List Candidate) (z : ByteArray) : decide ((((flt xs z).length : Nat) : Int) > 0) = xs.any (·.ready) := by
  rw [Bool.eq_iff_iff, decide_eq_true_eq, List.any_eq_true]
  constructor
  · intro h
    obtain ⟨x, hx⟩ : ∃ x, x ∈ flt xs z := List.exists_mem_of_length_pos (by omega)
    have := List.mem_filter.1 hx
    simp only [Bool.and_eq_true] at this
    exact ⟨x, this.1, this.2.1⟩
  · rintro ⟨x, hx, hr⟩
    have hpos : 0 < (flt xs z).length := by
      cases hc : counts xs z with
      | false => exact List.length_pos_of_mem (List.mem_filter.2 ⟨hx, by simp [hr, hc]⟩)
      | true =>
        have h2 := hc
        simp only [counts, Bool.and_eq_true] at h2
        obtain ⟨y, hy, hm⟩ := List.any_eq_true.1 h2.2
        have := List.mem_filter.1 hy
        exact List.length_pos_of_mem (List.mem_filter.2 ⟨this.1, by rw [this.2, hm]; simp⟩)
    omega

theorem lt_if {b : Bool} {k : Option Bool} (h : b = false → k = some true) : lt b (fun b => if b = true then some true else k) = some true := by
  cases b with
  | true => rfl
  | false => exact h rfl
end Go.Proofs.YtgcneihmkkldeaaGreat
