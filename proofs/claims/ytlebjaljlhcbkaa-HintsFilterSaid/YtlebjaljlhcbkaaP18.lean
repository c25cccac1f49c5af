/- The plain law of HintsLeave. No Go and no memory. -/
import Derived.Test.YtlebjaljlhcbkaaPH
namespace Go.Proofs.Ytlebjaljlhcbkaa
open Go K
set_option linter.unusedVariables false

theorem sortS_mem (xs : List ByteArray) (z : ByteArray) : z ∈ sortS xs ↔ z ∈ xs := by
  unfold sortS
  simp only [List.mem_map, List.mem_mergeSort]
  constructor
  · rintro ⟨l, ⟨x, hx, rfl⟩, rfl⟩; exact hx
  · intro h; exact ⟨z.data.toList, ⟨z, h, rfl⟩, rfl⟩
theorem sortS_len (xs : List ByteArray) : (sortS xs).length = xs.length := by
  unfold sortS; rw [List.length_map, List.length_mergeSort, List.length_map]
theorem compact_eq (xs : List ByteArray) (h : xs.length < LIM) : F25_slices_Compact_string_string xs = some (compL xs) := comG_eq _ xs (lim_fuel h)

/-- Texts are not longer than what was asked, so they are not more. -/
theorem num_long : ∀ (xs : List ByteArray) (n : Int) (s : Int), 0 ≤ s → s ≤ n → n ≤ 1000000 → runB (F20_linkboynum_Long_b1 n) xs s = .ret true ∨ ∃ t, runB (F20_linkboynum_Long_b1 n) xs s = .fin t ∧ s + xs.length ≤ t ∧ t ≤ n
  | [], n, s, h0, h1, _ => .inr ⟨s, rfl, by simp, h1⟩
  | x :: xs, n, s, h0, h1, hn => by
    rw [runB]
    by_cases hx : ((x.size : Nat) : Int) > n
    · simp only [F20_linkboynum_Long_b1]; rw [if_pos (by rw [decide_eq_true_eq]; exact hx)]; exact .inl rfl
    · have e1 : IntKind.i64.wrap (1 + ((x.size : Nat) : Int)) = 1 + ((x.size : Nat) : Int) := Go.IntWalk.i64_in _ (by omega)
      have e2 : IntKind.i64.wrap (s + (1 + ((x.size : Nat) : Int))) = s + (1 + ((x.size : Nat) : Int)) := Go.IntWalk.i64_in _ (by omega)
      simp only [F20_linkboynum_Long_b1, e1, e2]
      rw [if_neg (by rw [decide_eq_true_eq]; exact hx)]
      by_cases hy : s + (1 + ((x.size : Nat) : Int)) > n
      · rw [if_pos (by rw [decide_eq_true_eq]; exact hy)]; exact .inl rfl
      · rw [if_neg (by rw [decide_eq_true_eq]; exact hy)]
        rcases num_long xs n (s + (1 + ((x.size : Nat) : Int))) (by omega) (by omega) hn with h | ⟨t, ht, h2, h3⟩
        · exact .inl h
        · exact .inr ⟨t, ht, by simp only [List.length_cons]; omega, h3⟩
theorem num_few {xs : List ByteArray} {n : Int} (hn : 0 ≤ n) (hn2 : n ≤ 1000000) (h : F20_linkboynum_Long xs n = false) : ((xs.length : Nat) : Int) ≤ n := by
  have h' : (runB (F20_linkboynum_Long_b1 n) xs 0).elim (fun r => r) (fun _ => false) = false := h
  rcases num_long xs n 0 (Int.le_refl _) hn hn2 with h1 | ⟨t, _, h2, h3⟩
  · rw [h1] at h'; cases h'
  · omega
theorem runB_pass {α ρ : Type} {body : α → Unit → Step ρ Unit} : ∀ (xs : List α), (∀ x ∈ xs, body x () = .next ()) → runB body xs () = .fin ()
  | [], _ => rfl
  | x :: xs, h => by rw [runB, h x (by simp)]; exact runB_pass xs fun y hy => h y (by simp [hy])
theorem long_each {xs : List Candidate} : runB F6_linkboylaw18_Long_b1 xs () = .fin () ∨ runB F6_linkboylaw18_Long_b1 xs () = .ret true := by
  induction xs with
  | nil => exact .inl rfl
  | cons x xs ih =>
    rw [runB]
    simp only [F6_linkboylaw18_Long_b1, lt]
    cases F20_linkboynum_Long x.zones 400 with
    | true => exact .inr rfl
    | false => exact ih
theorem long_few {xs : List Candidate} (h : runB F6_linkboylaw18_Long_b1 xs () = .fin ()) : ∀ x ∈ xs, x.zones.length ≤ 400 := by
  induction xs with
  | nil => intro x hx; cases hx
  | cons x xs ih =>
    rw [runB] at h
    simp only [F6_linkboylaw18_Long_b1, lt] at h
    cases hz : F20_linkboynum_Long x.zones 400 with
    | true => rw [hz] at h; cases h
    | false =>
      rw [hz] at h
      intro y hy
      rcases List.mem_cons.1 hy with e | hy
      · subst e; have := num_few (by decide) (by decide) hz; omega
      · exact ih h y hy
theorem few_of {xs : List Candidate} (h : F6_linkboylaw18_Long xs = false) : xs.length ≤ 60 ∧ ∀ x ∈ xs, x.zones.length ≤ 400 := by
  unfold F6_linkboylaw18_Long at h
  by_cases h1 : ((xs.length : Nat) : Int) > 60
  · rw [if_pos (by rw [decide_eq_true_eq]; exact h1)] at h; cases h
  · rw [if_neg (by rw [decide_eq_true_eq]; exact h1)] at h
    refine ⟨by omega, ?_⟩
    rcases long_each (xs := xs) with h2 | h2
    · exact long_few h2
    · exfalso
      have h' : (runB F6_linkboylaw18_Long_b1 xs ()).elim (fun r => r) (fun _ => false) = false := h
      rw [h2] at h'; cases h'

/-- All zones of the ready ones, one after the other. -/
def zonesOf (xs : List Candidate) : List ByteArray := (ready xs).flatMap (·.zones)
theorem zones_loop : ∀ (xs : List Candidate) (s : List ByteArray), (∀ x ∈ xs, x.zones.length ≤ 400) → s.length + 400 * xs.length < LIM → runAO F8_hints_Zones_b1 xs s = some (s ++ xs.flatMap (·.zones))
  | [], s, _, _ => by simp [runAO]
  | x :: xs, s, hx, hl => by
    simp only [List.length_cons] at hl
    have h1 := hx x (by simp)
    rw [runAO]
    simp only [F8_hints_Zones_b1]
    rw [apO_ok (by omega)]
    simp only [Option.bind_some]
    rw [zones_loop xs _ (fun y hy => hx y (by simp [hy])) (by rw [List.length_append]; omega)]
    simp
theorem flat_len : ∀ (xs : List Candidate), (∀ x ∈ xs, x.zones.length ≤ 400) → (xs.flatMap (·.zones)).length ≤ 400 * xs.length
  | [], _ => by simp
  | x :: xs, h => by
    have h1 := h x (by simp)
    have h2 := flat_len xs fun y hy => h y (by simp [hy])
    simp only [List.flatMap_cons, List.length_append, List.length_cons]; omega
theorem zones_eq (xs : List Candidate) (hl : xs.length ≤ 60) (hz : ∀ x ∈ xs, x.zones.length ≤ 400) : F8_hints_Zones xs = some (compL (sortS (zonesOf xs))) := by
  have hL : LIM = 4294967296 := rfl
  have hr : (ready xs).length ≤ xs.length := List.length_filter_le _ _
  have hz' : ∀ x ∈ ready xs, x.zones.length ≤ 400 := fun x hx => hz x (List.mem_filter.1 hx).1
  unfold F8_hints_Zones
  rw [ready_eq xs (by omega)]
  simp only [Option.bind_some]
  rw [zones_loop _ _ hz' (by simp; omega)]
  simp only [Option.bind_some, List.nil_append, lt, F24_slices_Sort_string]
  have hlen := flat_len _ hz'
  rw [compact_eq _ (by rw [sortS_len]; omega)]
  rfl

theorem aliveH_eq : F5_linkboylaw18_alive = some true := by
  unfold F5_linkboylaw18_alive
  rw [count_eq _ _ (by decide), count_eq _ _ (by decide)]
  rfl
theorem n_loop : ∀ (xs : List Candidate) (s : Nat), s + xs.length < 1000000 → runA F3_linkboylaw18_HintsLeave_b1 xs ((s : Nat) : Int) = (((s + (ready xs).length : Nat)) : Int)
  | [], s, _ => by simp [runA, ready]
  | x :: xs, s, h => by
    simp only [List.length_cons] at h
    rw [runA]
    cases hr : x.ready
    · have : F3_linkboylaw18_HintsLeave_b1 x ((s : Nat) : Int) = ((s : Nat) : Int) := by simp [F3_linkboylaw18_HintsLeave_b1, hr]
      rw [this, n_loop xs s (by omega)]; simp [ready, hr]
    · have : F3_linkboylaw18_HintsLeave_b1 x ((s : Nat) : Int) = ((s + 1 : Nat) : Int) := by simp only [F3_linkboylaw18_HintsLeave_b1, hr, if_true]; exact wrap1 (by omega)
      rw [this, n_loop xs (s + 1) (by omega)]
      have e : (ready (x :: xs)).length = (ready xs).length + 1 := by simp [ready, hr]
      rw [e]; congr 1; omega
theorem known_loop (z : ByteArray) : ∀ (xs : List ByteArray) (s : Bool), runA (F3_linkboylaw18_HintsLeave_b3 z) xs s = (s || xs.any fun x => decide (x = z))
  | [], s => by simp [runA]
  | x :: xs, s => by
    rw [runA, known_loop z xs]
    have : F3_linkboylaw18_HintsLeave_b3 z x s = (s || decide (x = z)) := rfl
    rw [this, Bool.or_assoc]; rfl
theorem flt_len (xs : List Candidate) (z : ByteArray) : (flt xs z).length ≤ (ready xs).length := by
  have : flt xs z = (ready xs).filter fun x => !counts xs z || meant x z := by
    unfold flt ready; rw [List.filter_filter]; congr 1; funext x; exact Bool.and_comm _ _
  rw [this]; exact List.length_filter_le _ _
theorem flt_unknown (xs : List Candidate) (z : ByteArray) (h : z ∉ zonesOf xs) : flt xs z = ready xs := by
  have hc : counts xs z = false := by
    unfold counts
    have : ((ready xs).any fun x => meant x z) = false := all_any fun x hx => by
      cases hm : meant x z with
      | false => rfl
      | true =>
        obtain ⟨y, hy, he⟩ := List.any_eq_true.1 hm
        have e : z = y := by simpa using he
        exact absurd (List.mem_flatMap.2 ⟨x, hx, by rw [e]; exact hy⟩) h
    rw [this]; simp
  unfold flt ready; rw [hc]; simp
theorem law_leave (a0 : List Candidate) (a1 : ByteArray) : F3_linkboylaw18_HintsLeave a0 a1 = some true := by
  unfold F3_linkboylaw18_HintsLeave
  rw [aliveH_eq]
  refine lt_if (b := F6_linkboylaw18_Long a0 || decide (((a1.size : Nat) : Int) > 100)) fun h => ?_
  have hf := (Bool.or_eq_false_iff.1 h).1
  obtain ⟨h60, h400⟩ := few_of hf
  have hs := short_of hf
  have hn := n_loop a0 0 (by omega)
  rw [Nat.zero_add] at hn
  have e0 : ((0 : Nat) : Int) = 0 := rfl
  rw [e0] at hn
  rw [hn, filter_eq a0 a1 hs, zones_eq a0 h60 h400]
  simp only [lt, Option.bind_some]
  rw [runB_pass (flt a0 a1) fun x hx => by
    have := (List.mem_filter.1 hx).2
    simp only [Bool.and_eq_true] at this
    simp [F3_linkboylaw18_HintsLeave_b2, this.1]]
  rw [known_loop]
  have hle := flt_len a0 a1
  have hany := flt_some a0 a1
  have hpos : decide ((((ready a0).length : Nat) : Int) > 0) = a0.any (·.ready) := by
    rw [Bool.eq_iff_iff, decide_eq_true_eq, List.any_eq_true]
    constructor
    · intro h
      obtain ⟨x, hx⟩ : ∃ x, x ∈ ready a0 := List.exists_mem_of_length_pos (by omega)
      have := List.mem_filter.1 hx
      exact ⟨x, this.1, this.2⟩
    · rintro ⟨x, hx, hr⟩
      have := List.length_pos_of_mem (List.mem_filter.2 ⟨hx, hr⟩ : x ∈ a0.filter (·.ready))
      unfold ready; omega
  simp only [Lp.elim, Bool.false_or]
  rw [hany, hpos, decide_eq_true (by omega)]
  by_cases hz : a1 ∈ zonesOf a0
  · have : (compL (sortS (zonesOf a0))).any (fun x => decide (x = a1)) = true := List.any_eq_true.2 ⟨a1, (compL_mem _ _).2 ((sortS_mem _ _).2 hz), by simp⟩
    rw [this]; simp
  · rw [flt_unknown a0 a1 hz]; simp
end Go.Proofs.Ytlebjaljlhcbkaa
