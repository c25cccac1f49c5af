/- Lists in order, each value once: the same members, the same list; a value is put in. No program is named. -/
import Derived.Test.YtkfhcfkbaaekoaaDoorS2
namespace Go.Proofs.YtkfhcfkbaaekoaaDoor.K
open Go
set_option linter.unusedVariables false
structure STO {α : Type} (lt : α → α → Bool) : Prop where
  irr : ∀ a, lt a a = false
  trans : ∀ a b c, lt a b = true → lt b c = true → lt a c = true
  tri : ∀ a b, lt a b = false → lt b a = false → a = b
section
variable {α : Type} {lt : α → α → Bool}
def Ord (lt : α → α → Bool) (l : List α) : Prop := l.Pairwise fun a b => lt a b = true
theorem Ord.ext (h : STO lt) : ∀ (l m : List α), Ord lt l → Ord lt m → (∀ x, x ∈ l ↔ x ∈ m) → l = m
  | [], [], _, _, _ => rfl
  | [], y :: m, _, _, hm => by have := (hm y).2 (by simp); cases this
  | x :: l, [], _, _, hm => by have := (hm x).1 (by simp); cases this
  | x :: l, y :: m, hl, hr, hm => by
    have h1 := List.pairwise_cons.1 hl
    have h2 := List.pairwise_cons.1 hr
    have hxy : x = y := by
      refine h.tri x y ?_ ?_
      · cases hlt : lt x y with
        | false => rfl
        | true =>
          rcases List.mem_cons.1 ((hm x).1 (by simp)) with e | e
          · rw [e, h.irr] at hlt; cases hlt
          · have := h.trans _ _ _ hlt (h2.1 x e); rw [h.irr] at this; cases this
      · cases hlt : lt y x with
        | false => rfl
        | true =>
          rcases List.mem_cons.1 ((hm y).2 (by simp)) with e | e
          · rw [e, h.irr] at hlt; cases hlt
          · have := h.trans _ _ _ hlt (h1.1 y e); rw [h.irr] at this; cases this
    subst hxy
    congr 1
    refine Ord.ext h l m h1.2 h2.2 fun z => ?_
    constructor
    · intro hz
      rcases List.mem_cons.1 ((hm z).1 (by simp [hz])) with e | e
      · have := h1.1 z hz; rw [e, h.irr] at this; cases this
      · exact e
    · intro hz
      rcases List.mem_cons.1 ((hm z).2 (by simp [hz])) with e | e
      · have := h2.1 z hz; rw [e, h.irr] at this; cases this
      · exact e
structure Spot (lt : α → α → Bool) (out : List α) (z : α) (p : Nat) : Prop where
  le : p ≤ out.length
  lo : ∀ y ∈ out.take p, lt z y = false
  hi : ∀ y ∈ out.drop p, lt z y = true
theorem Spot.has (h : STO lt) {out : List α} {z : α} {p : Nat} (ho : Ord lt out) (s : Spot lt out z p) : z ∈ out ↔ ∃ y, 0 < p ∧ out[p - 1]? = some y ∧ y = z := by
  constructor
  · intro hz
    have hzt : z ∈ out.take p := by
      rw [← List.take_append_drop p out] at hz
      rcases List.mem_append.1 hz with hz | hz
      · exact hz
      · have := s.hi z hz; rw [h.irr] at this; cases this
    obtain ⟨i, hi, he⟩ := List.mem_iff_getElem.1 hzt
    have hi' : i < min p out.length := by simpa using hi
    rw [List.getElem_take] at he
    have hle := s.le
    have hp : 0 < p := by omega
    refine ⟨out[p - 1]'(by omega), hp, List.getElem?_eq_getElem (by omega), ?_⟩
    rcases Nat.lt_or_ge i (p - 1) with hlt | hge
    · have h1 : lt out[i] (out[p - 1]'(by omega)) = true := List.pairwise_iff_getElem.1 ho i (p - 1) (by omega) (by omega) hlt
      rw [he] at h1
      have h2 := s.lo (out[p - 1]'(by omega)) (List.mem_iff_getElem.2 ⟨p - 1, by rw [List.length_take]; omega, by rw [List.getElem_take]⟩)
      rw [h1] at h2; cases h2
    · have : i = p - 1 := by omega
      subst this; exact he
  · rintro ⟨y, hp, hy, rfl⟩
    exact List.mem_of_getElem? hy
theorem Spot.put (h : STO lt) {out : List α} {z : α} {p : Nat} (ho : Ord lt out) (s : Spot lt out z p) (hz : z ∉ out) : Ord lt (out.take p ++ [z] ++ out.drop p) ∧ ∀ x, x ∈ out.take p ++ [z] ++ out.drop p ↔ x ∈ out ∨ x = z := by
  have ho' : Ord lt (out.take p ++ out.drop p) := by rw [List.take_append_drop]; exact ho
  have ho2 := List.pairwise_append.1 ho'
  refine ⟨?_, fun x => ?_⟩
  · rw [List.append_assoc]
    refine List.pairwise_append.2 ⟨ho2.1, List.pairwise_append.2 ⟨List.pairwise_singleton _ _, ho2.2.1, fun a ha b hb => ?_⟩, fun a ha b hb => ?_⟩
    · rw [List.mem_singleton.1 ha]; exact s.hi b hb
    · rcases List.mem_append.1 hb with hb | hb
      · rw [List.mem_singleton.1 hb]
        cases hlt : lt a z with
        | true => rfl
        | false => exact absurd (h.tri a z hlt (s.lo a ha) ▸ List.mem_of_mem_take ha) hz
      · exact ho2.2.2 a ha b hb
  · have : x ∈ out ↔ x ∈ out.take p ∨ x ∈ out.drop p := by rw [← List.mem_append, List.take_append_drop]
    rw [this]
    simp only [List.mem_append, List.mem_singleton]
    constructor
    · rintro ((h | h) | h)
      · exact .inl (.inl h)
      · exact .inr h
      · exact .inl (.inr h)
    · rintro ((h | h) | h)
      · exact .inl (.inl h)
      · exact .inr h
      · exact .inl (.inr h)
end
end Go.Proofs.YtkfhcfkbaaekoaaDoor.K
