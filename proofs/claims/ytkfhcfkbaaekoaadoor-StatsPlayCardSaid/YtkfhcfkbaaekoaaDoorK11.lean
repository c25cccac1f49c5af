/- Arguments as they are given: read as data of a kind. General: no program is named. -/
import Derived.Test.YtkfhcfkbaaekoaaDoorK10
import Derived.ProofKit
import Derived.OpenShut
namespace Go.Proofs.YtkfhcfkbaaekoaaDoor.K
open Go
set_option linter.unusedVariables false
def allB : Nat → Prop := fun _ => True
def Opens {α : Type} (P : Program) (t : TypeId) (k : Kd α) (I : α → Prop) : Prop :=
  ∀ {H : Type} {enc : TypeId × Value → H} {w : World} {spare : Nat → Bool} {held : Bool} {fuel : Nat} {cs : List Value} {x : DataW H × List MemPlace},
    DataW.trod enc P w 0 spare held fuel t cs = some x → ∃ a, k.rep allB w a cs ∧ I a
section
variable {P : Program} {t : TypeId}
def inK (k : IntKind) (n : Int) : Prop := (Lit.int k n).wf = true
def inS (s : ByteArray) : Prop := s.size ≤ maxLen
theorem opens_bool (ht : P.underlying t = some .bool) : Opens P t kBool fun _ => True := fun h => by
  obtain ⟨b, rfl, _⟩ := DataW.trod_bool ht h; exact ⟨b, rfl, trivial⟩
theorem opens_int {k : IntKind} (ht : P.underlying t = some (.int k)) : Opens P t (kInt k) (inK k) := fun h => by
  obtain ⟨n, rfl, _, hw⟩ := DataW.trod_int ht h; exact ⟨n, rfl, hw⟩
theorem opens_str (ht : P.underlying t = some .string) : Opens P t kStr inS := fun h => by
  obtain ⟨s, rfl, _, hw⟩ := DataW.trod_string ht h; exact ⟨s, rfl, hw⟩
theorem list_choose {α : Type} {Q : Nat → α → Prop} : ∀ (n : Nat), (∀ i, i < n → ∃ a, Q i a) → ∃ l : List α, l.length = n ∧ ∀ i a, l[i]? = some a → Q i a
  | 0, _ => ⟨[], rfl, fun i a h => by simp at h⟩
  | n + 1, h => by
    obtain ⟨l, hl, hq⟩ := list_choose n fun i hi => h i (by omega)
    obtain ⟨a, ha⟩ := h n (by omega)
    refine ⟨l ++ [a], by simp [hl], fun i b hb => ?_⟩
    rcases Nat.lt_or_ge i l.length with h' | h'
    · rw [List.getElem?_append_left h'] at hb; exact hq i b hb
    · rw [List.getElem?_append_right h'] at hb
      have : i - l.length = 0 := by
        rcases Nat.eq_zero_or_pos (i - l.length) with e | e
        · exact e
        · rw [List.getElem?_eq_none (by simp only [List.length_singleton]; omega)] at hb; cases hb
      rw [this] at hb
      simp only [List.getElem?_cons_zero, Option.some.injEq] at hb
      subst hb
      have : i = n := by omega
      rw [this]; exact ha
theorem opens_sl {α : Type} {k : Kd α} {I : α → Prop} {e : TypeId} (hn : 0 < k.n) (ht : P.underlying t = some (.slice e)) (hc : P.cellsOf e = k.n) (ho : Opens P e k I) : Opens P t (k.sl hn) fun l => ∀ x ∈ l, I x := fun {H enc w spare held fuel cs x} h => by
  rcases DataW.trod_slice ht h with ⟨rfl, _⟩ | ⟨a, len, cap, elems, rest, n, _, rfl, _, hb, hl, hm, hlen, hel, _⟩
  · exact ⟨[], ⟨_, rfl, .inl ⟨rfl, rfl⟩⟩, fun _ h => by cases h⟩
  · have hone : ∀ i, i < len → ∃ (b : α × List Value), k.rep allB w b.1 b.2 ∧ I b.1 ∧ w.cells? 0 (a.add (i * P.cellsOf e)) (P.cellsOf e) = some b.2 := by
      intro i hi
      have h1 := hel i hi
      have h2 : elems[i]? = some elems[i] := List.getElem?_eq_getElem (by omega)
      rw [h2] at h1
      cases hc : w.cells? 0 (a.add (i * P.cellsOf e)) (P.cellsOf e) with
      | none => rw [hc] at h1; cases h1
      | some cs =>
        rw [hc] at h1
        obtain ⟨y, hy, hI⟩ := ho h1
        exact ⟨(y, cs), hy, hI, rfl⟩
    obtain ⟨l, hll, hq⟩ := list_choose len hone
    refine ⟨l.map (·.1), ⟨_, rfl, ?_⟩, fun y hy => ?_⟩
    · obtain ⟨b, off, s⟩ := a
      have hsn : 0 < len → s = none := fun h0 => by
        obtain ⟨p, _, _, hp⟩ := hone 0 h0
        obtain ⟨_, hl0, hcell⟩ := World.cells?_some hp
        have h1 := hcell 0 (by omega)
        rw [List.getElem?_eq_getElem (by omega)] at h1
        cases s with
        | none => rfl
        | some q => simp [Addr.add, World.cell?] at h1; split at h1 <;> cases h1
      refine .inr ⟨b, off, cap, ⟨s, by rw [List.length_map, hll], fun hne => hsn ?_⟩, by rw [List.length_map]; omega, by rw [List.length_map]; simp only [maxLen] at hm; omega, fun i y hy => ⟨trivial, ?_⟩⟩
      · rcases Nat.eq_zero_or_pos len with e | e
        · exact absurd (by rw [List.map_eq_nil_iff]; exact List.eq_nil_of_length_eq_zero (by omega)) hne
        · exact e
      · rw [List.getElem?_map] at hy
        cases hp : l[i]? with
        | none => rw [hp] at hy; cases hy
        | some p =>
          rw [hp] at hy
          simp only [Option.map_some, Option.some.injEq] at hy
          subst hy
          obtain ⟨h1, _, h3⟩ := hq i p hp
          obtain ⟨_, hl0, hcell⟩ := World.cells?_some h3
          refine ⟨p.2, h1, fun j u hu => ?_⟩
          have hj : j < p.2.length := lt_of_get hu
          have h4 := hcell j (by omega)
          rw [hu, hc] at h4
          obtain rfl := hsn (by have := lt_of_get hp; omega)
          rw [Addr_add, Addr_add] at h4
          exact h4
    · obtain ⟨p, hp, rfl⟩ := List.mem_map.1 hy
      obtain ⟨i, hi, hp'⟩ := List.mem_iff_getElem.1 hp
      exact (hq i p (by rw [List.getElem?_eq_getElem hi, hp'])).2.1
def OpensF (P : Program) (fs : Array Field) (i : Nat) {α : Type} (k : Kd α) (I : α → Prop) : Prop := ∃ f, fs[i]? = some f ∧ Opens P f.type k I ∧ P.cellsOf f.type = k.n
theorem field_open {fs : Array Field} (ht : P.underlying t = some (.struct fs)) {H : Type} {enc : TypeId × Value → H} {w : World} {spare : Nat → Bool} {held : Bool} {fuel : Nat} {cs : List Value} {x : DataW H × List MemPlace}
    (h : DataW.trod enc P w 0 spare held fuel t cs = some x) : cs.length = P.cellsOf t ∧ ∀ (i off ty m : Nat) (f : Field), fs[i]? = some f → f.type = ty → f.offset = off → P.cellsOf ty = m → ∀ {α : Type} {k : Kd α} {I : α → Prop}, Opens P ty k I → ∃ a, k.rep allB w a ((cs.drop off).take m) ∧ I a := by
  obtain ⟨xs, n, rfl, _, hl, hx, hall⟩ := DataW.trod_struct ht h
  refine ⟨hl, ?_⟩
  rintro i off ty m f hf rfl rfl rfl α k I ho
  have h1 := hall i f hf
  have hi : i < xs.length := by rw [hx]; exact (Array.getElem?_eq_some_iff.1 hf).1
  rw [List.getElem?_eq_getElem hi] at h1
  exact ho h1
theorem array_open {n : Nat} {e : TypeId} (ht : P.underlying t = some (.array n e)) {H : Type} {enc : TypeId × Value → H} {w : World} {spare : Nat → Bool} {held : Bool} {fuel : Nat} {cs : List Value} {x : DataW H × List MemPlace}
    (h : DataW.trod enc P w 0 spare held fuel t cs = some x) : cs.length = P.cellsOf t ∧ ∀ (i m : Nat), i < n → P.cellsOf e = m → ∀ {α : Type} {k : Kd α} {I : α → Prop}, Opens P e k I → ∃ a, k.rep allB w a ((cs.drop (i * m)).take m) ∧ I a := by
  obtain ⟨xs, q, rfl, _, hl, hx, hall⟩ := DataW.trod_array ht h
  refine ⟨hl, ?_⟩
  rintro i m hi rfl α k I ho
  have h1 := hall i hi
  rw [List.getElem?_eq_getElem (by omega)] at h1
  exact ho h1
theorem cut_eq {cs : List Value} (off m : Nat) : cs.drop off = (cs.drop off).take m ++ cs.drop (off + m) := by
  rw [← List.drop_drop, List.take_append_drop]
end
end Go.Proofs.YtkfhcfkbaaekoaaDoor.K
